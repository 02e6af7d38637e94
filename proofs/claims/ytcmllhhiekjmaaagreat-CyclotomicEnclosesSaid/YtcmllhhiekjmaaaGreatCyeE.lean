/- Contracts of the reference of rational. Printed by wip/sym/g_rq.py. Contracts of integer. Printed by wip/sym/g_int.py. Contracts of rational. Printed by wip/sym/g_rat.py. Contracts of interval. Printed by wip/sym/g_itv.py. Contracts of the reference of interval, of small functions. Printed by wip/sym/g_r4.py. -/
import Derived.Test.YtcmllhhiekjmaaaGreatCyeD
set_option linter.unusedVariables false
set_option maxHeartbeats 8000000
namespace Go.Proofs.YtcmllhhiekjmaaaGreat
open Nt
open Go.RowKit
theorem k_reduce {u w : World} {i1 i2 : IL} {z y : Int} {K L : Nat} (d : Dat u w) (hi1 : IntV u i1 z K) (hi2 : IntV u i2 y L) (hK : K ≤ 400000000) (hL : L ≤ 400000000) : qyc 91 #[i1.v, i2.v] w (Post u w fun v u' => ∃ r : RL, v = r.v ∧ RatN u' r ((z : Rat) / (y : Rat)) (max K L + 1)) := by
 refine zzl (args := [i1.v, i2.v]) Tryz.func91 rfl Tryz.ntmps91 (rs := [.cell 4 32]) Tryz.results91 (le_b rfl) (le_b rfl) d ?_
 refine sq9 (zzj 2 ⟨30, i1.cs⟩ (zzj 3 ⟨30, i2.cs⟩ (zzj 4 ⟨32, zw3⟩ (zzb (zzd (sq9 (zzh 12 (.v (i1.v)) ty30 zze (zzg 13 170 _ fun _ _ af aH => qym (k_riSign aH (hi1.ext af) xq) ?_))))))))
 rintro _ u12 ah rfl
 refine zza 14 (zB ((Nt.cmpS z 0) == 0)) ?_
 rcases Bool.eq_false_or_eq_true ((Nt.cmpS z 0) == 0) with hs15 | hs15
 ·refine zyn 15 (x := zB ((Nt.cmpS z 0) == 0)) (zB true) (by rw [hs15]) ?_
  have aA : z = 0 := Nt.cmp_eq0 hs15
  refine zzm 16 (uw 3 false true 15) (zzm 17 (uw 3 false true 15) (zzm 18 (uw 3 false true 15) (zza 19 (zB true) (zzb (zyo xj (sq9 (zxp 20 ⟨132, [.int .u32 1]⟩ 1 (fun ao u17 e18 aM => ?_))))))))
  refine zza 21 (.v (.agg #[.bool false, qyn, .slice (some ⟨ao, 0, none⟩) 1 1])) (zzi ⟨32, [.bool false, qyn, .slice (some ⟨ao, 0, none⟩) 1 1]⟩ ty32 ?_)
  refine zzb (zzn (zzv (ret0 [.agg #[.bool false, qyn, .slice (some ⟨ao, 0, none⟩) 1 1]] ⟨zzq ty32 zze, trivial⟩ fun u20 aL => ?_)))
  refine ⟨(⟨false, ⟨none, 0, 0⟩, (⟨some ⟨ao, 0, none⟩, 1, 1⟩ : Sl)⟩ : RL), rfl, ?_⟩
  have h9 : (z : Rat) / (y : Rat) = ((0 : Int) : Rat) := by rw [aA]; simp [Rat.div_def]
  rw [h9]
  exact RatN.more (whole_rat (int_zero _ 1) ((one_data aM).ext aL)) xq
 refine zyn 15 (x := zB ((Nt.cmpS z 0) == 0)) (zB false) (by rw [hs15]) ?_
 have aA : z ≠ 0 := Nt.cmp_ne0 hs15
 refine zzh 16 (.v (i2.v)) ty30 zze ?_ (hw := w1 3 false 15)
 refine zzg 17 170 _ (fun _ _ ai aO => qym (k_riSign aO (hi2.ext (af.t (ah.t ai))) xq) ?_) (hw := w1 3 false 15)
 rintro _ u23 ak rfl
 refine zza 18 (zB ((Nt.cmpS y 0) == 0)) ?_ (hw := w1 3 false 15)
 refine zza 19 (zB ((Nt.cmpS y 0) == 0)) (zzb (zzt (b := (Nt.cmpS y 0) == 0) xj (fun ae => ?_) (fun ae => ?_)))
 ·have ag : y = 0 := Nt.cmp_eq0 ae
  refine sq9 (zxp 20 ⟨132, [.int .u32 1]⟩ 1 (fun an u28 e29 aI => ?_))
  refine zza 21 (.v (.agg #[.bool false, qyn, .slice (some ⟨an, 0, none⟩) 1 1])) (zzi ⟨32, [.bool false, qyn, .slice (some ⟨an, 0, none⟩) 1 1]⟩ ty32 ?_)
  refine zzb (zzn (zzv (ret0 [.agg #[.bool false, qyn, .slice (some ⟨an, 0, none⟩) 1 1]] ⟨zzq ty32 zze, trivial⟩ fun u31 aF => ?_)))
  refine ⟨(⟨false, ⟨none, 0, 0⟩, (⟨some ⟨an, 0, none⟩, 1, 1⟩ : Sl)⟩ : RL), rfl, ?_⟩
  have h9 : (z : Rat) / (y : Rat) = ((0 : Int) : Rat) := by rw [ag]; simp [Rat.div_def]
  rw [h9]
  exact RatN.more (whole_rat (int_zero _ 1) ((one_data aI).ext aF)) xq
 have ag : y ≠ 0 := Nt.cmp_ne0 ae
 have az : ((Nat.gcd z.natAbs y.natAbs : Nat) : Int) ≠ 0 := by have h9 := Nat.gcd_pos_of_pos_right z.natAbs (Int.natAbs_pos.2 ag); omega
 refine zzr (zzo ?_)
 refine sq9 (zzh 22 (.v (i1.v)) ty30 zze (zzh 23 (.v (i2.v)) ty30 zze (zzg 24 191 _ fun _ _ al aP => qym (k_riGcd aP (hi1.ext (af.t (ah.t (ai.t (ak.t al))))) (hi2.ext (af.t (ah.t (ai.t (ak.t al))))) xq xq) ?_)))
 rintro _ u36 aB ⟨ar, rfl, av⟩
 refine zzj 5 ⟨30, [.bool false, qyn]⟩ (zzi ⟨30, ar.cs⟩ ty30 ?_)
 refine zzb (sq9 (zzh 26 (.v (i1.v)) ty30 zze (zzh 27 (.v (ar.v)) ty30 zze (zzg 28 192 _ fun _ _ aj aN => qym (k_riDiv aN (hi1.ext (af.t (ah.t (ai.t (ak.t (al.t (aB.t aj))))))) (av.ext aj).raw az xq xq) ?_))))
 rintro _ u44 ax ⟨ac, aq, rfl, aD, h43⟩
 refine zza 25 (.v (.tuple #[ac.v, aq.v, .int .i64 0])) (zza 29 (.v (ac.v)) (zza 30 (.v (aq.v)) (zza 31 (zI 0) (zzj 6 ⟨30, [.bool false, qyn]⟩ (zzj 7 ⟨30, [.bool false, qyn]⟩ (zzi ⟨30, ac.cs⟩ ty30 ?_))))))
 refine zzi ⟨30, aq.cs⟩ ty30 ?_
 refine zza 8 (zI 0) (zzb (sq9 (zzh 33 (.v (i2.v)) ty30 zze (zzh 34 (.v (ar.v)) ty30 zze (zzg 35 192 _ fun _ _ am aG => qym (k_riDiv aG (hi2.ext (af.t (ah.t (ai.t (ak.t (al.t (aB.t (aj.t (ax.t am))))))))) (av.ext (aj.t (ax.t am))).raw az xq xq) ?_)))))
 rintro _ u52 aC ⟨aa, au, rfl, ap, h51⟩
 refine zza 32 (.v (.tuple #[aa.v, au.v, .int .i64 0])) (zza 36 (.v (aa.v)) (zza 37 (.v (au.v)) (zza 38 (zI 0) (zzj 9 ⟨30, [.bool false, qyn]⟩ (zzj 10 ⟨30, [.bool false, qyn]⟩ (zzi ⟨30, aa.cs⟩ ty30 ?_))))))
 refine zzi ⟨30, au.cs⟩ ty30 ?_
 refine zza 11 (zI 0) (zzc 47 [(4, .adr 4 0), (6, .adr 6 0), (9, .adr 9 0)] [(4, ⟨32, zw3⟩), (6, ⟨30, ac.cs⟩), (9, ⟨30, aa.cs⟩)] (zzd (sq9 (zza 39 (.adr 9 0) (zzh 40 (zB aa.s) ty4 zzk (zzb (zzt (b := aa.s) xj (fun ab => ?_) (fun ab => ?_))))))))
 ·replace ab : aa.s = true := ab
  refine zzf (zzh 41 (.v (ac.v)) ty30 zze (zzg 42 193 _ fun _ _ aw aQ => qym (k_riNeg aQ (aD.ext (am.t (aC.t aw))).raw xq) ?_))
  rintro _ u59 aJ ⟨ad, rfl, aK⟩
  refine zzi ⟨30, ad.cs⟩ ty30 ?_
  refine zzb (sq9 (zzh 43 (.v (ad.v)) ty30 zze (zza 44 (.adr 9 1) (zzh 45 (.v (aa.m.v)) ty28 zzk (zza 46 (.v (.agg #[.bool ad.s, ad.m.v, aa.m.v])) (zzi ⟨32, ad.cs ++ [aa.m.v]⟩ ty32 ?_))))))
  refine zzb (zzn (ret0 [.agg #[.bool ad.s, ad.m.v, aa.m.v]] ⟨zzq ty32 zze, trivial⟩ fun u62 aE => ?_))
  refine ⟨(⟨ad.s, ad.m, aa.m⟩ : RL), rfl, RatN.more (red_neg ag rfl (aK.ext aE) ap ab ((int_mag ap).ext (aw.t (aJ.t aE)))) xq⟩
 replace ab : aa.s = false := ab
 refine zzr (zzo ?_)
 refine sq9 (zzh 43 (.v (ac.v)) ty30 zze (zza 44 (.adr 9 1) (zzh 45 (.v (aa.m.v)) ty28 zzk (zza 46 (.v (.agg #[.bool ac.s, ac.m.v, aa.m.v])) (zzi ⟨32, ac.cs ++ [aa.m.v]⟩ ty32 ?_)))))
 refine zzb (zzn (ret0 [.agg #[.bool ac.s, ac.m.v, aa.m.v]] ⟨zzq ty32 zze, trivial⟩ fun u64 ay => ?_))
 refine ⟨(⟨ac.s, ac.m, aa.m⟩ : RL), rfl, RatN.more (red_pos ag rfl (aD.ext (am.t (aC.t ay))) ap ab ((int_mag ap).ext ay)) xq⟩
theorem k_parts {u w : World} {r : RL} {q : Rat} {K : Nat} (d : Dat u w) (h : RatV u r q K) (hKK : K ≤ 400000000) : qyc 70 #[r.v] w (Post u w (PartV q K)) := by
 obtain ⟨⟨z, D, hi, hd, hq⟩, hK⟩ := h
 change IntV u ⟨r.s, r.m⟩ z K at hi
 change NatV u r.d D K at hd
 refine zzl (args := [r.v]) Tryz.func70 rfl Tryz.ntmps70 (rs := [.cell 2 30, .cell 3 30]) Tryz.results70 (le_b rfl) (le_b rfl) d ?_
 refine sq9 (zzj 1 ⟨32, r.cs⟩ (zzj 2 ⟨30, [.bool false, qyn]⟩ (zzj 3 ⟨30, [.bool false, qyn]⟩ (zzb (sq9 (zza 5 (.adr 1 2) (zzh 6 (.v (r.d.v)) ty28 zzk (zzg 7 169 _ fun _ _ ag ah => qym (k_rnTrim ah (hd.ext ag) xq) ?_))))))))
 rintro _ u14 ak ⟨aa, rfl, ae⟩
 refine zza 8 (.v (.agg #[.bool false, aa.v])) (zzj 4 ⟨30, [.bool false, qyn]⟩ (zzi ⟨30, [.bool false, aa.v]⟩ ty30 ?_))
 refine zzb (zzd (sq9 (zza 9 (.adr 4 1) (zzh 10 (.v (aa.v)) ty28 zzk (zza 11 (zI aa.n) (zza 12 (zB ((aa.n : Int) == 0)) (zzb (zzt (b := (aa.n : Int) == 0) xj (fun ab => ?_) (fun ab => ?_)))))))))
 ·have ac : (aa.n : Int) = 0 := by simpa using ab
  refine sq9 (zza 13 (.v (.agg #[.bool false, qyn])) (zxp 14 ⟨132, [.int .u32 1]⟩ 1 (fun ad u19 e20 ai => ?_)))
  refine zza 15 (.v (.agg #[.bool false, .slice (some ⟨ad, 0, none⟩) 1 1])) (zzi ⟨30, [.bool false, qyn]⟩ ty30 ?_)
  refine zzi ⟨30, [.bool false, .slice (some ⟨ad, 0, none⟩) 1 1]⟩ ty30 ?_
  refine zzb (zzn (zzv (ret0 [.agg #[.bool false, qyn], .agg #[.bool false, .slice (some ⟨ad, 0, none⟩) 1 1]] ⟨zzq ty30 zze, zzq ty30 zze, trivial⟩ fun u22 aj => ?_)))
  have hp := ae.pos
  have hD : D = 0 := by simp at ab; omega
  exact ⟨⟨false, ⟨none, 0, 0⟩⟩, ⟨false, (⟨some ⟨ad, 0, none⟩, 1, 1⟩ : Sl)⟩, 0, 1, rfl, (int_zero _ K).raw, nat_intN (((one_data ai).ext aj).more hK), by omega, by rw [hq, hD]; simp, hK⟩
 have ac : ¬ ((aa.n : Int) = 0) := by simpa using ab
 refine zzr (zzo ?_)
 refine zzd (zzy [0, 1, 0, 3, 15] [(0, []), (1, []), (2, []), (3, [4]), (4, [])] xj xj (zza 16 (.adr 1 0) (zzh 17 (.v (.agg #[.bool r.s, r.m.v])) ty30 zze (zzh 18 (.v (.agg #[.bool false, aa.v])) ty30 zze (zzi ⟨30, [.bool r.s, r.m.v]⟩ ty30 ?_)))))
 refine zzi ⟨30, [.bool false, aa.v]⟩ ty30 ?_
 refine zzb (zzn (ret0 [.agg #[.bool r.s, r.m.v], .agg #[.bool false, aa.v]] ⟨zzq ty30 zze, zzq ty30 zze, trivial⟩ fun u24 af => ?_))
 have hp := ae.pos
 exact ⟨⟨r.s, r.m⟩, ⟨false, aa⟩, z, D, rfl, (hi.ext (ag.t (ak.t af))), nat_intN (ae.ext af), by simp at ab; omega, hq, hK⟩
theorem k_rqTrim {u w : World} {r1 : RL} {x : Rat} {K : Nat} (d : Dat u w) (hr1 : RatV u r1 x K) (hK : K ≤ 100000000) : qyc 121 #[r1.v] w (Post u w fun v u' => ∃ r : RL, v = r.v ∧ RatN u' r x K) := by
 refine zzl (args := [r1.v]) Tryz.func121 rfl Tryz.ntmps121 (rs := [.cell 2 32]) Tryz.results121 (le_b rfl) (le_b rfl) d ?_
 refine sq9 (zzj 1 ⟨32, r1.cs⟩ (zzj 2 ⟨32, zw3⟩ (zzb (sq9 (zzh 6 (.v (r1.v)) ty32 zze (zzg 7 70 _ fun _ _ ai aj => qym (k_parts aj (hr1.ext ai) xq) ?_))))))
 rintro _ u13 g14 ⟨ab, aa, z12, D12, rfl, ae, ad, ak, ac, al⟩
 refine zza 5 (.v (.tuple #[ab.v, aa.v])) (zza 8 (.v (ab.v)) (zza 9 (.v (aa.v)) (zzj 3 ⟨30, [.bool false, qyn]⟩ (zzj 4 ⟨30, [.bool false, qyn]⟩ (zzi ⟨30, ab.cs⟩ ty30 ?_)))))
 refine zzi ⟨30, aa.cs⟩ ty30 ?_
 refine zzb (sq9 (zzh 10 (.v (ab.v)) ty30 zze (zzh 11 (.v (aa.v)) ty30 zze (zzg 12 91 _ fun _ _ ag an => qym (k_reduce an (ae.ext ag) (ad.ext ag).raw xq xq) ?_))))
 rintro _ u19 g20 ⟨af, rfl, ah⟩
 refine zzi ⟨32, af.cs⟩ ty32 ?_
 refine zzb (zzn (ret0 [af.v] ⟨zzq ty32 zze, trivial⟩ fun u22 am => ?_))
 refine ⟨af, rfl, RatN.fit (K := (max K K + 1)) ?_ (hr1.rs)⟩
 rw [ac, ← Nt.mk_div]
 exact (ah.ext am)
theorem k_rqOf {u w : World} {z : Int} (d : Dat u w) (h0 : -9223372036854775808 ≤ z) (h1 : z ≤ 9223372036854775807) : qyc 23 #[.int .i64 z] w (Post u w fun v u' => ∃ r : RL, v = r.v ∧ RatN u' r (z : Rat) 2) := by
 refine zzl (args := [.int .i64 z]) Tryz.func23 rfl Tryz.ntmps23 (rs := [.cell 2 32]) Tryz.results23 (le_b rfl) (le_b rfl) d ?_
 refine sq9 (zzj 2 ⟨32, zw3⟩ (zzb (sq9 (zza 3 (zI z) (zzg 4 92 _ fun _ _ _ ad => qym (k_riOf ad (z := z) xq xq) ?_)))))
 rintro _ u14 g15 ⟨aa, rfl, ag⟩
 refine zxp 5 ⟨132, [.int .u32 1]⟩ 1 (fun ab u18 ae af => ?_)
 refine zza 6 (.v (.agg #[.bool aa.s, aa.m.v, .slice (some ⟨ab, 0, none⟩) 1 1])) (zzi ⟨32, aa.cs ++ [.slice (some ⟨ab, 0, none⟩) 1 1]⟩ ty32 ?_)
 refine zzb (zzn (ret0 [.agg #[.bool aa.s, aa.m.v, .slice (some ⟨ab, 0, none⟩) 1 1]] ⟨zzq ty32 zze, trivial⟩ fun u21 ac => ?_))
 refine ⟨(⟨aa.s, aa.m, (⟨some ⟨ab, 0, none⟩, 1, 1⟩ : Sl)⟩ : RL), rfl, ?_⟩
 exact whole_rat (ag.ext (ae.trans ac)) ((one_data af).ext ac)
theorem k_rqFrac {u w : World} {a b : Int} (d : Dat u w) (ha0 : -9223372036854775808 ≤ a) (ha1 : a ≤ 9223372036854775807) (hb0 : -9223372036854775808 ≤ b) (hb1 : b ≤ 9223372036854775807) : qyc 24 #[.int .i64 a, .int .i64 b] w (Post u w fun v u' => ∃ r : RL, v = r.v ∧ RatN u' r ((a : Rat) / (b : Rat)) 3) := by
 refine zzl (args := [.int .i64 a, .int .i64 b]) Tryz.func24 rfl Tryz.ntmps24 (rs := [.cell 4 32]) Tryz.results24 (le_b rfl) (le_b rfl) d ?_
 refine sq9 (zzj 4 ⟨32, zw3⟩ (zzb (sq9 (zza 5 (zI a) (zzg 6 92 _ fun _ _ _ ag => qym (k_riOf ag (z := a) xq xq) ?_)))))
 rintro _ u14 g15 ⟨i12, rfl, ad⟩
 refine zza 7 (zI b) (zzg 8 92 _ fun _ _ ac ah => qym (k_riOf ah (z := b) xq xq) ?_)
 rintro _ u20 aj ⟨i18, rfl, ak⟩
 refine zzg 9 91 _ fun _ _ ab ai => qym (k_reduce ai (ad.ext (ac.t (aj.t ab))).raw (ak.ext ab).raw xq xq) ?_
 rintro _ u26 g27 ⟨aa, rfl, af⟩
 refine zzi ⟨32, aa.cs⟩ ty32 ?_
 refine zzb (zzn (ret0 [aa.v] ⟨zzq ty32 zze, trivial⟩ fun u29 ae => ?_))
 refine ⟨aa, rfl, RatN.more (K := (max 2 2 + 1)) ?_ xq⟩
 exact (af.ext ae)
theorem k_rqSign {u w : World} {r1 : RL} {x : Rat} {K : Nat} (d : Dat u w) (hr1 : RatV u r1 x K) (hK : K ≤ 100000000) : qyc 106 #[r1.v] w (Post u w fun v u' => v = .int .i64 (Nt.sgQ x)) := by
 refine zzl (args := [r1.v]) Tryz.func106 rfl Tryz.ntmps106 (rs := [.tmp 2]) Tryz.results106 (le_b rfl) (le_b rfl) d ?_
 refine sq9 (zzj 1 ⟨32, r1.cs⟩ (zza 2 (zI 0) (zzb (sq9 (zzh 6 (.v (r1.v)) ty32 zze (zzg 7 70 _ fun _ _ ah ai => qym (k_parts ai (hr1.ext ah) xq) ?_))))))
 rintro _ u13 g14 ⟨aa, ac, af, D12, rfl, ad, ag, ae, ab, ak⟩
 refine zza 5 (.v (.tuple #[aa.v, ac.v])) (zza 8 (.v (aa.v)) (zza 9 (.v (ac.v)) (zzj 3 ⟨30, [.bool false, qyn]⟩ (zzj 4 ⟨30, [.bool false, qyn]⟩ (zzi ⟨30, aa.cs⟩ ty30 ?_)))))
 refine zzi ⟨30, ac.cs⟩ ty30 ?_
 refine zzb (sq9 (zzh 10 (.v (aa.v)) ty30 zze (zzg 11 170 _ fun _ _ aj al => qym (k_riSign al (ad.ext aj) xq) ?_)))
 rintro _ u17 g18 rfl
 refine zza 2 (zI (Nt.cmpS af 0)) (zzb (zzn (ret0 [.int .i64 (Nt.cmpS af 0)] ⟨zzp, trivial⟩ fun u20 e21 => ?_)))
 show _ = _
 rw [ab, ← Nt.sg_mk ae]
 rfl
theorem k_rqCompare {u w : World} {r1 : RL} {x : Rat} {K : Nat} {r2 : RL} {y : Rat} {L : Nat} (d : Dat u w) (hr1 : RatV u r1 x K) (hr2 : RatV u r2 y L) (hK : K ≤ 100000000) (hL : L ≤ 100000000) : qyc 14 #[r1.v, r2.v] w (Post u w fun v u' => v = .int .i64 (Nt.cmpQ x y)) := by
 refine zzl (args := [r1.v, r2.v]) Tryz.func14 rfl Tryz.ntmps14 (rs := [.tmp 4]) Tryz.results14 (le_b rfl) (le_b rfl) d ?_
 refine sq9 (zzj 2 ⟨32, r1.cs⟩ (zzj 3 ⟨32, r2.cs⟩ (zza 4 (zI 0) (zzb (sq9 (zzh 10 (.v (r1.v)) ty32 zze (zzg 11 70 _ fun _ _ ax aC => qym (k_parts aC (hr1.ext ax) xq) ?_)))))))
 rintro _ u13 az ⟨ad, ab, aq, ar, rfl, aj, ah, ao, af, aD⟩
 refine zza 9 (.v (.tuple #[ad.v, ab.v])) (zza 12 (.v (ad.v)) (zza 13 (.v (ab.v)) (zzj 5 ⟨30, [.bool false, qyn]⟩ (zzj 6 ⟨30, [.bool false, qyn]⟩ (zzi ⟨30, ad.cs⟩ ty30 ?_)))))
 refine zzi ⟨30, ab.cs⟩ ty30 ?_
 refine zzb (sq9 (zzh 15 (.v (r2.v)) ty32 zze (zzg 16 70 _ fun _ _ ai aF => qym (k_parts aF (hr2.ext (ax.t (az.t ai))) xq) ?_)))
 rintro _ u18 ap ⟨aa, ac, au, av, rfl, ak, am, an, ag, aH⟩
 refine zza 14 (.v (.tuple #[aa.v, ac.v])) (zza 17 (.v (aa.v)) (zza 18 (.v (ac.v)) (zzj 7 ⟨30, [.bool false, qyn]⟩ (zzj 8 ⟨30, [.bool false, qyn]⟩ (zzi ⟨30, aa.cs⟩ ty30 ?_)))))
 refine zzi ⟨30, ac.cs⟩ ty30 ?_
 refine zzb (zzd (zzy [0, 0, 3, 0, 0, 31, 63, 127] [(0, []), (1, []), (3, []), (4, []), (2, []), (5, []), (6, []), (7, [])] xj xj (zzh 19 (.v (ad.v)) ty30 zze (zzh 20 (.v (ac.v)) ty30 zze (zzh 22 (.v (aa.v)) ty30 zze (zzh 23 (.v (ab.v)) ty30 zze (zzg 21 72 _ fun _ _ ae aA => qym (k_riMul aA (aj.ext (ai.t (ap.t ae))) (am.ext ae).raw xq xq) ?_)))))))
 rintro _ u24 aw ⟨i22, rfl, aE⟩
 refine zzg 24 72 _ fun _ _ al aG => qym (k_riMul aG (ak.ext (ae.t (aw.t al))) (ah.ext (ai.t (ap.t (ae.t (aw.t al))))).raw xq xq) ?_
 rintro _ u30 aI ⟨i28, rfl, aB⟩
 refine zzg 25 71 _ fun _ _ ay aJ => qym (k_riCompare aJ (aE.ext (al.t (aI.t ay))).raw (aB.ext ay).raw xq xq) ?_
 rintro _ u34 g35 rfl
 refine zza 4 (zI (Nt.cmpS (aq * (av : Int)) (au * (ar : Int)))) (zzb (zzn (ret0 [.int .i64 (Nt.cmpS (aq * (av : Int)) (au * (ar : Int)))] ⟨zzp, trivial⟩ fun u37 e38 => ?_)))
 show _ = _
 rw [af, ag, ← Nt.cmp_mk ao an]
 rfl
theorem k_rqLess {u w : World} {r1 : RL} {x : Rat} {K : Nat} {r2 : RL} {y : Rat} {L : Nat} (d : Dat u w) (hr1 : RatV u r1 x K) (hr2 : RatV u r2 y L) (hK : K ≤ 100000000) (hL : L ≤ 100000000) : qyc 66 #[r1.v, r2.v] w (Post u w fun v u' => v = .bool (decide (x < y))) := by
 refine zzl (args := [r1.v, r2.v]) Tryz.func66 rfl Tryz.ntmps66 (rs := [.tmp 4]) Tryz.results66 (le_b rfl) (le_b rfl) d ?_
 refine sq9 (zzj 2 ⟨32, r1.cs⟩ (zzj 3 ⟨32, r2.cs⟩ (zza 4 (zB false) (zzb (sq9 (zzh 5 (.v (r1.v)) ty32 zze (zzh 6 (.v (r2.v)) ty32 zze (zzg 7 14 _ fun _ _ aa ab => qym (k_rqCompare ab (hr1.ext aa) (hr2.ext aa) xq xq) ?_))))))))
 rintro _ u12 g13 rfl
 refine zza 8 (zB (decide ((Nt.cmpQ x y) < 0))) (zza 4 (zB (decide ((Nt.cmpQ x y) < 0))) (zzb (zzn (ret0 [.bool (decide ((Nt.cmpQ x y) < 0))] ⟨zzp, trivial⟩ fun u15 e16 => ?_))))
 show _ = _
 rw [← Nt.cmpQ_lt]
 rfl
theorem k_rqNeg {u w : World} {r1 : RL} {x : Rat} {K : Nat} (d : Dat u w) (hr1 : RatV u r1 x K) (hK : K ≤ 100000000) : qyc 123 #[r1.v] w (Post u w fun v u' => ∃ r : RL, v = r.v ∧ RatN u' r (-x) K) := by
 refine zzl (args := [r1.v]) Tryz.func123 rfl Tryz.ntmps123 (rs := [.cell 2 32]) Tryz.results123 (le_b rfl) (le_b rfl) d ?_
 refine sq9 (zzj 1 ⟨32, r1.cs⟩ (zzj 2 ⟨32, zw3⟩ (zzb (sq9 (zzh 3 (.v (r1.v)) ty32 zze (zzg 4 121 _ fun _ _ ai ag => qym (k_rqTrim ag (hr1.ext ai) xq) ?_))))))
 rintro _ u14 g15 ⟨ab, rfl, ad⟩
 refine zzi ⟨32, ab.cs⟩ ty32 ?_
 refine zzb (sq9 (zza 5 (.adr 1 0) (zzh 6 (.v (.agg #[.bool ab.s, ab.m.v])) ty30 zze (zzg 7 193 _ fun _ _ ae ah => qym (k_riNeg ah ((RatN.num ad).ext ae).raw xq) ?_))))
 rintro _ u20 aj ⟨aa, rfl, af⟩
 refine zza 8 (.adr 1 0) (zzi ⟨32, aa.cs ++ [ab.d.v]⟩ ty30 ?_)
 refine zzb (sq9 (zzh 9 (.v (.agg #[.bool aa.s, aa.m.v, ab.d.v])) ty32 zze (zzi ⟨32, aa.cs ++ [ab.d.v]⟩ ty32 ?_)))
 refine zzb (zzn (ret0 [.agg #[.bool aa.s, aa.m.v, ab.d.v]] ⟨zzq ty32 zze, trivial⟩ fun u23 ac => ?_))
 exact ⟨(⟨aa.s, aa.m, ab.d⟩ : RL), rfl, neg_rat (ad.ext (ae.t (aj.t ac))) (af.ext ac)⟩
theorem k_rqAdd {u w : World} {r1 : RL} {x : Rat} {K : Nat} {r2 : RL} {y : Rat} {L : Nat} (d : Dat u w) (hr1 : RatV u r1 x K) (hr2 : RatV u r2 y L) (hK : K ≤ 100000000) (hL : L ≤ 100000000) : qyc 33 #[r1.v, r2.v] w (Post u w fun v u' => ∃ r : RL, v = r.v ∧ RatN u' r (x + y) (K + L + 2)) := by
 refine zzl (args := [r1.v, r2.v]) Tryz.func33 rfl Tryz.ntmps33 (rs := [.cell 4 32]) Tryz.results33 (le_b rfl) (le_b rfl) d ?_
 refine sq9 (zzj 2 ⟨32, r1.cs⟩ (zzj 3 ⟨32, r2.cs⟩ (zzj 4 ⟨32, zw3⟩ (zzb (sq9 (zzh 10 (.v (r1.v)) ty32 zze (zzg 11 70 _ fun _ _ ax aG => qym (k_parts aG (hr1.ext ax) xq) ?_)))))))
 rintro _ u13 aB ⟨ak, ab, z12, D12, rfl, aq, ad, av, an, aI⟩
 refine zza 9 (.v (.tuple #[ak.v, ab.v])) (zza 12 (.v (ak.v)) (zza 13 (.v (ab.v)) (zzj 5 ⟨30, [.bool false, qyn]⟩ (zzj 6 ⟨30, [.bool false, qyn]⟩ (zzi ⟨30, ak.cs⟩ ty30 ?_)))))
 refine zzi ⟨30, ab.cs⟩ ty30 ?_
 refine zzb (sq9 (zzh 15 (.v (r2.v)) ty32 zze (zzg 16 70 _ fun _ _ aj aM => qym (k_parts aM (hr2.ext (ax.t (aB.t aj))) xq) ?_)))
 rintro _ u18 am ⟨ag, ac, z17, D17, rfl, ar, af, au, ao, aH⟩
 refine zza 14 (.v (.tuple #[ag.v, ac.v])) (zza 17 (.v (ag.v)) (zza 18 (.v (ac.v)) (zzj 7 ⟨30, [.bool false, qyn]⟩ (zzj 8 ⟨30, [.bool false, qyn]⟩ (zzi ⟨30, ag.cs⟩ ty30 ?_)))))
 refine zzi ⟨30, ac.cs⟩ ty30 ?_
 refine zzb (zzd (zzy [0, 0, 3, 0, 0, 31, 63, 0, 0, 511, 1023, 2047] [(0, []), (1, []), (3, []), (4, []), (7, []), (8, []), (2, []), (5, []), (6, []), (9, []), (10, []), (11, [])] xj xj (zzh 19 (.v (ak.v)) ty30 zze (zzh 20 (.v (ac.v)) ty30 zze (zzh 22 (.v (ag.v)) ty30 zze (zzh 23 (.v (ab.v)) ty30 zze (zzh 26 (.v (ab.v)) ty30 zze (zzh 27 (.v (ac.v)) ty30 zze (zzg 21 72 _ fun _ _ aa aD => qym (k_riMul aD (aq.ext (aj.t (am.t aa))) (af.ext aa).raw xq xq) ?_)))))))))
 rintro _ u24 ai ⟨i22, rfl, aK⟩
 refine zzg 24 72 _ fun _ _ ae aP => qym (k_riMul aP (ar.ext (aa.t (ai.t ae))) (ad.ext (aj.t (am.t (aa.t (ai.t ae))))).raw xq xq) ?_
 rintro _ u30 aw ⟨i28, rfl, aE⟩
 refine zzg 25 120 _ fun _ _ al aQ => qym (k_riAdd aQ (aK.ext (ae.t (aw.t al))).raw (aE.ext al).raw xq xq) ?_
 rintro _ u36 ay ⟨i34, rfl, aC⟩
 refine zzg 28 72 _ fun _ _ ap aO => qym (k_riMul aO (ad.ext (aj.t (am.t (aa.t (ai.t (ae.t (aw.t (al.t (ay.t ap))))))))).raw (af.ext (aa.t (ai.t (ae.t (aw.t (al.t (ay.t ap))))))).raw xq xq) ?_
 rintro _ u42 aA ⟨i40, rfl, aJ⟩
 refine zzg 29 91 _ fun _ _ az aN => qym (k_reduce aN (aC.ext (ap.t (aA.t az))).raw (aJ.ext az).raw xq xq) ?_
 rintro _ u48 g49 ⟨ah, rfl, aF⟩
 refine zzi ⟨32, ah.cs⟩ ty32 ?_
 refine zzc 30 [(4, .adr 4 0)] [(4, ⟨32, ah.cs⟩)] (zzn (ret0 [ah.v] ⟨zzq ty32 zze, trivial⟩ fun u51 aL => ?_))
 refine ⟨ah, rfl, RatN.more (K := (max (max (K + L) (L + K) + 1) (K + L) + 1)) ?_ xq⟩
 rw [an, ao, ← Nt.add_div2 av au]
 exact (aF.ext aL)
theorem k_rqMul {u w : World} {r1 : RL} {x : Rat} {K : Nat} {r2 : RL} {y : Rat} {L : Nat} (d : Dat u w) (hr1 : RatV u r1 x K) (hr2 : RatV u r2 y L) (hK : K ≤ 100000000) (hL : L ≤ 100000000) : qyc 22 #[r1.v, r2.v] w (Post u w fun v u' => ∃ r : RL, v = r.v ∧ RatN u' r (x * y) (K + L + 1)) := by
 refine zzl (args := [r1.v, r2.v]) Tryz.func22 rfl Tryz.ntmps22 (rs := [.cell 4 32]) Tryz.results22 (le_b rfl) (le_b rfl) d ?_
 refine sq9 (zzj 2 ⟨32, r1.cs⟩ (zzj 3 ⟨32, r2.cs⟩ (zzj 4 ⟨32, zw3⟩ (zzb (sq9 (zzh 10 (.v (r1.v)) ty32 zze (zzg 11 70 _ fun _ _ aq aA => qym (k_parts aA (hr1.ext aq) xq) ?_)))))))
 rintro _ u13 au ⟨ad, ab, z12, D12, rfl, aj, ah, aH, af, aB⟩
 refine zza 9 (.v (.tuple #[ad.v, ab.v])) (zza 12 (.v (ad.v)) (zza 13 (.v (ab.v)) (zzj 5 ⟨30, [.bool false, qyn]⟩ (zzj 6 ⟨30, [.bool false, qyn]⟩ (zzi ⟨30, ad.cs⟩ ty30 ?_)))))
 refine zzi ⟨30, ab.cs⟩ ty30 ?_
 refine zzb (sq9 (zzh 15 (.v (r2.v)) ty32 zze (zzg 16 70 _ fun _ _ ai aE => qym (k_parts aE (hr2.ext (aq.t (au.t ai))) xq) ?_)))
 rintro _ u18 ao ⟨aa, ac, z17, D17, rfl, ak, am, aD, ag, aG⟩
 refine zza 14 (.v (.tuple #[aa.v, ac.v])) (zza 17 (.v (aa.v)) (zza 18 (.v (ac.v)) (zzj 7 ⟨30, [.bool false, qyn]⟩ (zzj 8 ⟨30, [.bool false, qyn]⟩ (zzi ⟨30, aa.cs⟩ ty30 ?_)))))
 refine zzi ⟨30, ac.cs⟩ ty30 ?_
 refine zzb (zzd (zzy [0, 0, 3, 0, 0, 31, 63, 127] [(0, []), (1, []), (3, []), (4, []), (2, []), (5, []), (6, []), (7, [])] xj xj (zzh 19 (.v (ad.v)) ty30 zze (zzh 20 (.v (aa.v)) ty30 zze (zzh 22 (.v (ab.v)) ty30 zze (zzh 23 (.v (ac.v)) ty30 zze (zzg 21 72 _ fun _ _ ae ax => qym (k_riMul ax (aj.ext (ai.t (ao.t ae))) (ak.ext ae) xq xq) ?_)))))))
 rintro _ u24 ap ⟨i22, rfl, aC⟩
 refine zzg 24 72 _ fun _ _ al aF => qym (k_riMul aF (ah.ext (ai.t (ao.t (ae.t (ap.t al))))).raw (am.ext (ae.t (ap.t al))).raw xq xq) ?_
 rintro _ u30 az ⟨i28, rfl, ay⟩
 refine zzg 25 91 _ fun _ _ ar aI => qym (k_reduce aI (aC.ext (al.t (az.t ar))).raw (ay.ext ar).raw xq xq) ?_
 rintro _ u36 g37 ⟨an, rfl, av⟩
 refine zzi ⟨32, an.cs⟩ ty32 ?_
 refine zzb (zzn (ret0 [an.v] ⟨zzq ty32 zze, trivial⟩ fun u39 aw => ?_))
 refine ⟨an, rfl, RatN.more (K := (max (K + L) (K + L) + 1)) ?_ xq⟩
 rw [af, ag, ← Nt.mul_div2]
 exact (av.ext aw)
theorem k_rqMin {u w : World} {r1 : RL} {x : Rat} {K : Nat} {r2 : RL} {y : Rat} {L : Nat} (d : Dat u w) (hr1 : RatV u r1 x K) (hr2 : RatV u r2 y L) (hK : K ≤ 100000000) (hL : L ≤ 100000000) : qyc 65 #[r1.v, r2.v] w (Post u w fun v u' => ∃ r : RL, v = r.v ∧ RatN u' r (Nt.lo x y) (max K L)) := by
 refine zzl (args := [r1.v, r2.v]) Tryz.func65 rfl Tryz.ntmps65 (rs := [.cell 4 32]) Tryz.results65 (le_b rfl) (le_b rfl) d ?_
 refine sq9 (zzj 2 ⟨32, r1.cs⟩ (zzj 3 ⟨32, r2.cs⟩ (zzj 4 ⟨32, zw3⟩ (zzb (zzd (sq9 (zzh 5 (.v (r2.v)) ty32 zze (zzh 6 (.v (r1.v)) ty32 zze (zzg 7 66 _ fun _ _ ab aj => qym (k_rqLess aj (hr2.ext ab) (hr1.ext ab) xq xq) ?_)))))))))
 rintro _ u12 ae rfl
 refine zzb (zzt (b := decide (y < x)) xj (fun aa => ?_) (fun aa => ?_))
 ·have qhb15 := qyt aa
  refine sq9 (zzh 8 (.v (r2.v)) ty32 zze (zzg 9 121 _ fun _ _ ak an => qym (k_rqTrim an (hr2.ext (ab.t (ae.t ak))) xq) ?_))
  rintro _ u19 g20 ⟨ad, rfl, ai⟩
  refine zzi ⟨32, ad.cs⟩ ty32 ?_
  refine zzb (zzn (zzv (ret0 [ad.v] ⟨zzq ty32 zze, trivial⟩ fun u22 al => ?_)))
  refine ⟨ad, rfl, RatN.more (K := L) ?_ xq⟩
  unfold Nt.lo
  rw [if_pos (qyt aa)]
  exact (ai.ext al)
 have qhb15 := qyf aa
 refine zzr (zzo ?_)
 refine sq9 (zzh 10 (.v (r1.v)) ty32 zze (zzg 11 121 _ fun _ _ ag af => qym (k_rqTrim af (hr1.ext (ab.t (ae.t ag))) xq) ?_))
 rintro _ u27 g28 ⟨ac, rfl, ah⟩
 refine zzi ⟨32, ac.cs⟩ ty32 ?_
 refine zzb (zzn (ret0 [ac.v] ⟨zzq ty32 zze, trivial⟩ fun u30 am => ?_))
 refine ⟨ac, rfl, RatN.more (K := K) ?_ xq⟩
 unfold Nt.lo
 rw [if_neg (qyf aa)]
 exact (ah.ext am)
theorem k_rqMax {u w : World} {r1 : RL} {x : Rat} {K : Nat} {r2 : RL} {y : Rat} {L : Nat} (d : Dat u w) (hr1 : RatV u r1 x K) (hr2 : RatV u r2 y L) (hK : K ≤ 100000000) (hL : L ≤ 100000000) : qyc 64 #[r1.v, r2.v] w (Post u w fun v u' => ∃ r : RL, v = r.v ∧ RatN u' r (Nt.hi x y) (max K L)) := by
 refine zzl (args := [r1.v, r2.v]) Tryz.func64 rfl Tryz.ntmps64 (rs := [.cell 4 32]) Tryz.results64 (le_b rfl) (le_b rfl) d ?_
 refine sq9 (zzj 2 ⟨32, r1.cs⟩ (zzj 3 ⟨32, r2.cs⟩ (zzj 4 ⟨32, zw3⟩ (zzb (zzd (sq9 (zzh 5 (.v (r1.v)) ty32 zze (zzh 6 (.v (r2.v)) ty32 zze (zzg 7 66 _ fun _ _ ab aj => qym (k_rqLess aj (hr1.ext ab) (hr2.ext ab) xq xq) ?_)))))))))
 rintro _ u12 ae rfl
 refine zzb (zzt (b := decide (x < y)) xj (fun aa => ?_) (fun aa => ?_))
 ·have qhb15 := qyt aa
  refine sq9 (zzh 8 (.v (r2.v)) ty32 zze (zzg 9 121 _ fun _ _ ak an => qym (k_rqTrim an (hr2.ext (ab.t (ae.t ak))) xq) ?_))
  rintro _ u19 g20 ⟨ad, rfl, ai⟩
  refine zzi ⟨32, ad.cs⟩ ty32 ?_
  refine zzb (zzn (zzv (ret0 [ad.v] ⟨zzq ty32 zze, trivial⟩ fun u22 al => ?_)))
  refine ⟨ad, rfl, RatN.more (K := L) ?_ xq⟩
  unfold Nt.hi
  rw [if_pos (qyt aa)]
  exact (ai.ext al)
 have qhb15 := qyf aa
 refine zzr (zzo ?_)
 refine sq9 (zzh 10 (.v (r1.v)) ty32 zze (zzg 11 121 _ fun _ _ ag af => qym (k_rqTrim af (hr1.ext (ab.t (ae.t ag))) xq) ?_))
 rintro _ u27 g28 ⟨ac, rfl, ah⟩
 refine zzi ⟨32, ac.cs⟩ ty32 ?_
 refine zzb (zzn (ret0 [ac.v] ⟨zzq ty32 zze, trivial⟩ fun u30 am => ?_))
 refine ⟨ac, rfl, RatN.more (K := K) ?_ xq⟩
 unfold Nt.hi
 rw [if_neg (qyf aa)]
 exact (ah.ext am)
def DivQ (x y : Rat) (K : Nat) (v : Value) (u : World) : Prop := (v = .tuple #[.agg #[.bool false, qyn, qyn], .int .i64 3] ∧ y = 0) ∨ (y ≠ 0 ∧ ∃ r : RL, v = .tuple #[r.v, .int .i64 0] ∧ RatN u r (x / y) K)
theorem k_rqDiv {u w : World} {r1 : RL} {x : Rat} {K : Nat} {r2 : RL} {y : Rat} {L : Nat} (d : Dat u w) (hr1 : RatV u r1 x K) (hr2 : RatV u r2 y L) (hK : K ≤ 100000000) (hL : L ≤ 100000000) : qyc 104 #[r1.v, r2.v] w (Post u w fun v u' => DivQ x y (K + L + 1) v u') := by
 refine zzl (args := [r1.v, r2.v]) Tryz.func104 rfl Tryz.ntmps104 (rs := [.cell 4 32, .tmp 5]) Tryz.results104 (le_b rfl) (le_b rfl) d ?_
 refine sq9 (zzj 2 ⟨32, r1.cs⟩ (zzj 3 ⟨32, r2.cs⟩ (zzj 4 ⟨32, zw3⟩ (zza 5 (zI 0) (zzb (sq9 (zzh 11 (.v (r1.v)) ty32 zze (zzg 12 70 _ fun _ _ az aH => qym (k_parts aH (hr1.ext az) xq) ?_))))))))
 rintro _ u13 aB ⟨ai, ag, z12, D12, rfl, ar, an, aq, al, aL⟩
 refine zza 10 (.v (.tuple #[ai.v, ag.v])) (zza 13 (.v (ai.v)) (zza 14 (.v (ag.v)) (zzj 6 ⟨30, [.bool false, qyn]⟩ (zzj 7 ⟨30, [.bool false, qyn]⟩ (zzi ⟨30, ai.cs⟩ ty30 ?_)))))
 refine zzi ⟨30, ag.cs⟩ ty30 ?_
 refine zzb (sq9 (zzh 16 (.v (r2.v)) ty32 zze (zzg 17 70 _ fun _ _ ao aN => qym (k_parts aN (hr2.ext (az.t (aB.t ao))) xq) ?_)))
 rintro _ u18 aw ⟨ac, ah, am, D17, rfl, ae, au, av, ab, aO⟩
 refine zza 15 (.v (.tuple #[ac.v, ah.v])) (zza 18 (.v (ac.v)) (zza 19 (.v (ah.v)) (zzj 8 ⟨30, [.bool false, qyn]⟩ (zzj 9 ⟨30, [.bool false, qyn]⟩ (zzi ⟨30, ac.cs⟩ ty30 ?_)))))
 refine zzi ⟨30, ah.cs⟩ ty30 ?_
 refine zzb (zzd (sq9 (zzh 20 (.v (ac.v)) ty30 zze (zzg 21 170 _ fun _ _ ad aE => qym (k_riSign aE (ae.ext ad) xq) ?_))))
 rintro _ u22 af rfl
 refine zza 22 (zB ((Nt.cmpS am 0) == 0)) (zzb (zzt (b := (Nt.cmpS am 0) == 0) xj (fun aa => ?_) (fun aa => ?_)))
 ·refine sq9 (zza 23 (.v (.agg #[.bool false, qyn, qyn])) (zzi ⟨32, zw3⟩ ty32 ?_))
  refine zza 5 (zI 3) (zzb (zzn (zzv (ret0 [.agg #[.bool false, qyn, qyn], .int .i64 3] ⟨zzq ty32 zze, zzp, trivial⟩ fun u26 e27 => ?_))))
  left
  exact ⟨rfl, by rw [ab, Nt.cmp_eq0 aa, Rat.zero_mkRat]⟩
 have aA : am ≠ 0 := Nt.cmp_ne0 aa
 refine zzr (zzo ?_)
 refine zzd (zzy [0, 0, 3, 0, 0, 31, 63, 127, 255] [(0, []), (1, []), (3, []), (4, []), (2, []), (5, []), (6, []), (7, []), (8, [])] xj xj (zzh 24 (.v (ai.v)) ty30 zze (zzh 25 (.v (ah.v)) ty30 zze (zzh 27 (.v (ag.v)) ty30 zze (zzh 28 (.v (ac.v)) ty30 zze (zzg 26 72 _ fun _ _ aj aI => qym (k_riMul aI (ar.ext (ao.t (aw.t (ad.t (af.t aj))))) (au.ext (ad.t (af.t aj))).raw xq xq) ?_))))))
 rintro _ u31 ay ⟨i29, rfl, aJ⟩
 refine zzg 29 72 _ fun _ _ ap aG => qym (k_riMul aG (an.ext (ao.t (aw.t (ad.t (af.t (aj.t (ay.t ap))))))).raw (ae.ext (ad.t (af.t (aj.t (ay.t ap))))) xq xq) ?_
 rintro _ u37 aK ⟨i35, rfl, aD⟩
 refine zzg 30 91 _ fun _ _ ax aC => qym (k_reduce aC (aJ.ext (ap.t (aK.t ax))).raw (aD.ext ax).raw xq xq) ?_
 rintro _ u43 g44 ⟨ak, rfl, aF⟩
 refine zzi ⟨32, ak.cs⟩ ty32 ?_
 refine zza 5 (zI 0) (zzc 31 [(4, .adr 4 0), (5, zI 0)] [(4, ⟨32, ak.cs⟩)] (zzn (ret0 [ak.v, .int .i64 0] ⟨zzq ty32 zze, zzp, trivial⟩ fun u46 aM => ?_)))
 right
 refine ⟨?_, ak, rfl, RatN.more (K := (max (K + L) (K + L) + 1)) ?_ xq⟩
 ·rw [ab]; exact (Rat.mkRat_ne_zero xq).2 aA
 rw [al, ab, ← Nt.quo_mk aq av aA]
 exact (aF.ext aM)
theorem k_rqOver {u w : World} {r1 : RL} {x : Rat} {K : Nat} {r2 : RL} {y : Rat} {L : Nat} (d : Dat u w) (hr1 : RatV u r1 x K) (hr2 : RatV u r2 y L) (hK : K ≤ 100000000) (hL : L ≤ 100000000) : qyc 135 #[r1.v, r2.v] w (Post u w fun v u' => ∃ r : RL, v = r.v ∧ RatN u' r (x / y) (K + L + 2)) := by
 refine zzl (args := [r1.v, r2.v]) Tryz.func135 rfl Tryz.ntmps135 (rs := [.cell 4 32]) Tryz.results135 (le_b rfl) (le_b rfl) d ?_
 refine sq9 (zzj 2 ⟨32, r1.cs⟩ (zzj 3 ⟨32, r2.cs⟩ (zzj 4 ⟨32, zw3⟩ (zzb (sq9 (zzh 8 (.v (r1.v)) ty32 zze (zzh 9 (.v (r2.v)) ty32 zze (zzg 10 104 _ fun _ _ ad ag => qym (k_rqDiv ag (hr1.ext ad) (hr2.ext ad) xq xq) ?_))))))))
 rintro _ u15 g16 (⟨rfl, ab⟩ | ⟨ab, aa, rfl, aj⟩)
 ·skip
  refine zza 7 (.v (.tuple #[.agg #[.bool false, qyn, qyn], .int .i64 3])) (zza 11 (.v (.agg #[.bool false, qyn, qyn])) (zza 12 (zI 3) (zzj 5 ⟨32, zw3⟩ (zzi ⟨32, zw3⟩ ty32 ?_))))
  refine zza 6 (zI 3) (zzb (zzd (sq9 (zza 13 (zI 3) (zza 14 (zB true) (zzb (zyo xj (sq9 (zzg 15 23 _ fun _ _ _ ai => qym (k_rqOf ai (z := 0) xq xq) ?_)))))))))
  rintro _ u21 g22 ⟨ac, rfl, ah⟩
  refine zzi ⟨32, ac.cs⟩ ty32 ?_
  refine zzb (zzn (zzv (ret0 [ac.v] ⟨zzq ty32 zze, trivial⟩ fun u24 ae => ?_)))
  refine ⟨ac, rfl, RatN.more (K := 2) ?_ xq⟩
  rw [ab, Rat.div_def, Rat.inv_zero, Rat.mul_zero]
  exact (ah.ext ae)
 refine zza 7 (.v (.tuple #[aa.v, .int .i64 0])) (zza 11 (.v (aa.v)) (zza 12 (zI 0) (zzj 5 ⟨32, zw3⟩ (zzi ⟨32, aa.cs⟩ ty32 ?_))))
 refine zza 6 (zI 0) (zzb (zzd (sq9 (zza 13 (zI 0) (zza 14 (zB false) (zzb (zyp xj (zzr (zzo ?_)))))))))
 refine sq9 (zzh 16 (.v (aa.v)) ty32 zze (zzi ⟨32, aa.cs⟩ ty32 ?_))
 refine zzb (zzn (ret0 [aa.v] ⟨zzq ty32 zze, trivial⟩ fun u26 af => ?_))
 refine ⟨aa, rfl, RatN.more (K := (K + L + 1)) ?_ xq⟩
 exact (aj.ext af)
theorem k_signed {u w : World} {s : Bool} {x : Sl} {N K : Nat} (d : Dat u w) (h : NatN u x N K) : qyc 264 #[.bool s, x.v] w (Post u w fun v u' => ∃ i : IL, v = i.v ∧ IntN u' i (Nt.sg s N) K) := by
 refine zzl (args := [.bool s, x.v]) Tryz.func264 rfl Tryz.ntmps264 (rs := [.cell 4 30]) Tryz.results264 (le_b rfl) (le_b rfl) d ?_
 refine sq9 (zzj 4 ⟨30, [.bool false, qyn]⟩ (zzb (sq9 (zza 5 (zB s) ?_))))
 rcases Bool.eq_false_or_eq_true s with hs11 | hs11
 ·refine zyn 6 (x := zB s) (zB true) (by rw [hs11]) (zza 7 (.v (x.v)) ?_ (hw := w1 1 true 6))
  refine zza 8 (zI x.n) ?_ (hw := w1 1 true 6)
  refine zza 9 (zB (decide ((0 : Int) < (x.n : Int)))) ?_ (hw := w1 1 true 6)
  refine zza 10 (zB (decide ((0 : Int) < (x.n : Int)))) (zza 11 (.v (x.v)) (zza 12 (.v (.agg #[.bool (decide ((0 : Int) < (x.n : Int))), x.v])) (zzi ⟨30, [.bool (decide ((0 : Int) < (x.n : Int))), x.v]⟩ ty30 ?_)))
  refine zzb (zzn (ret0 [.agg #[.bool (decide ((0 : Int) < (x.n : Int))), .slice x.a x.n x.c]] ⟨zzq ty30 zze, trivial⟩ fun u12 aa => ?_))
  rw [hs11]
  exact ⟨⟨_, x⟩, rfl, signed_int (s := true) (h.ext aa)⟩
 refine zyn 6 (x := zB s) (zB false) (by rw [hs11]) (zzm 7 (uw 1 true false 6) (zzm 8 (uw 1 true false 6) (zzm 9 (uw 1 true false 6) (zza 10 (zB false) (zza 11 (.v (x.v)) (zza 12 (.v (.agg #[.bool false, x.v])) (zzi ⟨30, [.bool false, x.v]⟩ ty30 ?_)))))))
 refine zzb (zzn (ret0 [.agg #[.bool false, .slice x.a x.n x.c]] ⟨zzq ty30 zze, trivial⟩ fun u14 ab => ?_))
 rw [hs11]
 exact ⟨⟨_, x⟩, rfl, signed_int (s := false) (h.ext ab)⟩
theorem k_intTrim {u w : World} {i1 : IL} {zN : Int} {K : Nat} (d : Dat u w) (hi1 : IntV u i1 zN K) (hK : K ≤ 500000000) : qyc 292 #[i1.v] w (Post u w fun v u' => ∃ i : IL, v = i.v ∧ IntN u' i zN K) := by
 obtain ⟨N, hN, hzN⟩ := hi1
 refine zzl (args := [i1.v]) Tryz.func292 rfl Tryz.ntmps292 (rs := [.cell 2 30]) Tryz.results292 (le_b rfl) (le_b rfl) d ?_
 refine sq9 (zzj 1 ⟨30, i1.cs⟩ (zzj 2 ⟨30, [.bool false, qyn]⟩ (zzb (zzd (zzy [0, 1, 0, 4, 12, 31, 63] [(0, []), (1, []), (2, []), (3, []), (4, []), (5, []), (6, [])] xj xj (zza 3 (.adr 1 0) (zzh 4 (zB i1.s) ty4 zzk (zza 5 (.adr 1 1) (zzh 6 (.v (i1.m.v)) ty28 zzk (zzg 7 265 _ fun _ _ ag ab => qym (k_natTrim ab (hN.ext ag) xq) ?_))))))))))
 rintro _ u14 g15 ⟨x12, rfl, ae⟩
 refine zzg 8 264 _ fun _ _ ah af => qym (k_signed af (s := i1.s) (ae.ext ah)) ?_
 rintro _ u20 g21 ⟨aa, rfl, ad⟩
 refine zzi ⟨30, aa.cs⟩ ty30 ?_
 refine zzb (zzn (ret0 [aa.v] ⟨zzq ty30 zze, trivial⟩ fun u23 ac => ?_))
 refine ⟨aa, rfl, IntN.more (K := K) ?_ xq⟩
 rw [hzN]
 exact (ad.ext ac)
theorem k_intMul {u w : World} {i1 : IL} {zN : Int} {K : Nat} {i2 : IL} {zM : Int} {L : Nat} (d : Dat u w) (hi1 : IntV u i1 zN K) (hi2 : IntV u i2 zM L) (hK : K ≤ 500000000) (hL : L ≤ 500000000) : qyc 202 #[i1.v, i2.v] w (Post u w fun v u' => ∃ i : IL, v = i.v ∧ IntN u' i (zN * zM) (K + L)) := by
 obtain ⟨N, hN, hzN⟩ := hi1
 obtain ⟨M, hM, hzM⟩ := hi2
 refine zzl (args := [i1.v, i2.v]) Tryz.func202 rfl Tryz.ntmps202 (rs := [.cell 4 30]) Tryz.results202 (le_b rfl) (le_b rfl) d ?_
 refine sq9 (zzj 2 ⟨30, i1.cs⟩ (zzj 3 ⟨30, i2.cs⟩ (zzj 4 ⟨30, [.bool false, qyn]⟩ (zzb (zzd (zzy [0, 1, 0, 4, 15, 0, 32, 0, 128, 480, 1023, 2047] [(0, []), (1, []), (2, []), (3, []), (4, []), (5, []), (6, []), (7, []), (8, []), (9, []), (10, []), (11, [])] xj xj (zza 5 (.adr 2 0) (zzh 6 (zB i1.s) ty4 zzk (zza 7 (.adr 3 0) (zzh 8 (zB i2.s) ty4 zzk (zza 9 (zB (!(i1.s == i2.s))) ?_)))))))))))
 refine zza 10 (.adr 2 1) (zzh 11 (.v (i1.m.v)) ty28 zzk (zza 12 (.adr 3 1) (zzh 13 (.v (i2.m.v)) ty28 zzk (zzg 14 208 _ fun _ _ ab ac => qym (k_natMul ac (hN.ext ab) (hM.ext ab) xq xq) ?_))))
 rintro _ u14 g15 ⟨x12, rfl, af⟩
 refine zzg 15 264 _ fun _ _ ah ag => qym (k_signed ag (s := !(i1.s == i2.s)) (af.ext ah)) ?_
 rintro _ u20 g21 ⟨aa, rfl, ae⟩
 refine zzi ⟨30, aa.cs⟩ ty30 ?_
 refine zzb (zzn (ret0 [aa.v] ⟨zzq ty30 zze, trivial⟩ fun u23 ad => ?_))
 refine ⟨aa, rfl, IntN.more (K := (K + L)) ?_ xq⟩
 rw [hzN, hzM, ← Nt.sg_mul]
 exact (ae.ext ad)
theorem k_intAdd {u w : World} {i1 : IL} {zN : Int} {K : Nat} {i2 : IL} {zM : Int} {L : Nat} (d : Dat u w) (hi1 : IntV u i1 zN K) (hi2 : IntV u i2 zM L) (hK : K ≤ 500000000) (hL : L ≤ 500000000) : qyc 206 #[i1.v, i2.v] w (Post u w fun v u' => ∃ i : IL, v = i.v ∧ IntN u' i (zN + zM) (max K L + 1)) := by
 obtain ⟨N, hN, hzN⟩ := hi1
 obtain ⟨M, hM, hzM⟩ := hi2
 refine zzl (args := [i1.v, i2.v]) Tryz.func206 rfl Tryz.ntmps206 (rs := [.cell 4 30]) Tryz.results206 (le_b rfl) (le_b rfl) d ?_
 refine sq9 (zzj 2 ⟨30, i1.cs⟩ (zzj 3 ⟨30, i2.cs⟩ (zzj 4 ⟨30, [.bool false, qyn]⟩ (zzb (zzd (sq9 (zza 5 (.adr 2 0) (zzh 6 (zB i1.s) ty4 zzk (zza 7 (.adr 3 0) (zzh 8 (zB i2.s) ty4 zzk (zza 9 (zB (i1.s == i2.s)) ?_)))))))))))
 refine zzb (zzt (b := i1.s == i2.s) xj (fun aa => ?_) (fun aa => ?_))
 ·refine zzd (zzy [0, 1, 0, 4, 0, 16, 60, 127, 255] [(0, []), (1, []), (2, []), (3, []), (4, []), (5, []), (6, []), (7, []), (8, [])] xj xj (zza 10 (.adr 2 0) (zzh 11 (zB i1.s) ty4 zzk (zza 12 (.adr 2 1) (zzh 13 (.v (i1.m.v)) ty28 zzk (zza 14 (.adr 3 1) (zzh 15 (.v (i2.m.v)) ty28 zzk (zzg 16 295 _ fun _ _ ah ao => qym (k_natAdd ao (hN.ext ah) (hM.ext ah) xq xq) ?_))))))))
  rintro _ u15 g16 ⟨x13, rfl, av⟩
  refine zzg 17 264 _ fun _ _ ay az => qym (k_signed az (s := i1.s) (av.ext ay)) ?_
  rintro _ u21 g22 ⟨ag, rfl, au⟩
  refine zzi ⟨30, ag.cs⟩ ty30 ?_
  refine zzb (zzn (zzv (ret0 [ag.v] ⟨zzq ty30 zze, trivial⟩ fun u24 aq => ?_)))
  refine ⟨ag, rfl, IntN.more (K := (max K L + 1)) ?_ xq⟩
  rw [hzN, hzM, ← Nt.sg_add1 N M aa]
  exact (au.ext aq)
 refine zzr (zzo ?_)
 refine zzd (sq9 (zza 18 (.adr 2 1) (zzh 19 (.v (i1.m.v)) ty28 zzk (zza 20 (.adr 3 1) (zzh 21 (.v (i2.m.v)) ty28 zzk (zzg 22 207 _ fun _ _ ac aB => qym (k_natCompare aB (hN.ext ac) (hM.ext ac)) ?_))))))
 rintro _ u27 ad rfl
 refine zza 23 (zB ((Nt.cmpS N M) == (-1))) (zzb (zzt (b := (Nt.cmpS N M) == (-1)) xj (fun ab => ?_) (fun ab => ?_)))
 ·refine zzd (zzy [0, 1, 0, 4, 0, 16, 60, 127, 255] [(0, []), (1, []), (2, []), (3, []), (4, []), (5, []), (6, []), (7, []), (8, [])] xj xj (zza 24 (.adr 3 0) (zzh 25 (zB i2.s) ty4 zzk (zza 26 (.adr 3 1) (zzh 27 (.v (i2.m.v)) ty28 zzk (zza 28 (.adr 2 1) (zzh 29 (.v (i1.m.v)) ty28 zzk (zzg 30 296 _ fun _ _ ai am => qym (k_natSub am (hM.ext (ac.t (ad.t ai))) (hN.ext (ac.t (ad.t ai))) xq xq) ?_))))))))
  rintro _ u34 g35 ⟨x32, rfl, al⟩
  refine zzg 31 264 _ fun _ _ ar aE => qym (k_signed aE (s := i2.s) (al.ext ar)) ?_
  rintro _ u40 g41 ⟨af, rfl, ap⟩
  refine zzi ⟨30, af.cs⟩ ty30 ?_
  refine zzb (zzn (zzv (ret0 [af.v] ⟨zzq ty30 zze, trivial⟩ fun u43 ak => ?_)))
  refine ⟨af, rfl, IntN.more (K := L) ?_ xq⟩
  rw [hzN, hzM, ← Nt.sg_add2 N M aa ab]
  exact (ap.ext ak)
 refine zzr (zzo ?_)
 refine zzd (zzy [0, 1, 0, 4, 0, 16, 60, 127, 255] [(0, []), (1, []), (2, []), (3, []), (4, []), (5, []), (6, []), (7, []), (8, [])] xj xj (zza 32 (.adr 2 0) (zzh 33 (zB i1.s) ty4 zzk (zza 34 (.adr 2 1) (zzh 35 (.v (i1.m.v)) ty28 zzk (zza 36 (.adr 3 1) (zzh 37 (.v (i2.m.v)) ty28 zzk (zzg 38 296 _ fun _ _ aj aD => qym (k_natSub aD (hN.ext (ac.t (ad.t aj))) (hM.ext (ac.t (ad.t aj))) xq xq) ?_))))))))
 rintro _ u48 g49 ⟨x46, rfl, ax⟩
 refine zzg 39 264 _ fun _ _ aA an => qym (k_signed an (s := i1.s) (ax.ext aA)) ?_
 rintro _ u54 g55 ⟨ae, rfl, aw⟩
 refine zzi ⟨30, ae.cs⟩ ty30 ?_
 refine zzb (zzn (ret0 [ae.v] ⟨zzq ty30 zze, trivial⟩ fun u57 aC => ?_))
 refine ⟨ae, rfl, IntN.more (K := K) ?_ xq⟩
 rw [hzN, hzM, ← Nt.sg_add3 N M aa ab]
 exact (aw.ext aC)
theorem k_intSign {u w : World} {i1 : IL} {zN : Int} {K : Nat} (d : Dat u w) (hi1 : IntV u i1 zN K)  : qyc 201 #[i1.v] w (Post u w fun v u' => v = .int .i64 (Nt.cmpS zN 0)) := by
 obtain ⟨N, hN, hzN⟩ := hi1
 refine zzl (args := [i1.v]) Tryz.func201 rfl Tryz.ntmps201 (rs := [.tmp 2]) Tryz.results201 (le_b rfl) (le_b rfl) d ?_
 refine sq9 (zzj 1 ⟨30, i1.cs⟩ (zza 2 (zI 0) (zzb (zzd (zzs (sq9 (zza 4 (.adr 1 1) (zzh 5 (.v (i1.m.v)) ty28 zzk (zzg 6 207 _ fun _ _ ad ac => qym (k_natCompare ac (hN.ext ad) (nat_nil _ 1)) ?_)))))))))
 rintro _ u12 g13 rfl
 refine zza 7 (zB ((Nt.cmpS N 0) == 0)) (zza 3 (zB ((Nt.cmpS N 0) == 0)) (zzb (zzt (b := (Nt.cmpS N 0) == 0) xj (fun ab => ?_) (fun ab => ?_))))
 ·refine sq9 (zza 2 (zI 0) (zzb (zzn (zyr (zzv (ret0 [.int .i64 0] ⟨zzp, trivial⟩ fun u16 e17 => ?_))))))
  show _ = _
  rw [hzN, Nt.sg_cmp0, if_pos ab]
  rfl
 refine sq9 (zza 9 (.adr 1 0) (zzh 10 (zB i1.s) ty4 zzk (zza 8 (zB i1.s) (zzb (zzt (b := i1.s) xj (fun aa => ?_) (fun aa => ?_))))))
 ·replace aa : i1.s = true := aa
  refine sq9 (zza 2 (zI (-1)) (zzb (zzn (zyr (zzv (ret0 [.int .i64 (-1)] ⟨zzp, trivial⟩ fun u19 e20 => ?_))))))
  show _ = _
  rw [hzN, Nt.sg_cmp0, if_neg (ne_true_of_eq_false ab), if_pos aa]
  rfl
 replace aa : i1.s = false := aa
 refine zzr (zzo ?_)
 refine sq9 (zza 2 (zI 1) (zzb (zzn (ret0 [.int .i64 1] ⟨zzp, trivial⟩ fun u21 e22 => ?_))))
 show _ = _
 rw [hzN, Nt.sg_cmp0, if_neg (ne_true_of_eq_false ab), if_neg (ne_true_of_eq_false aa)]
 rfl
namespace Nt
theorem cmp_sg (s t : Bool) (N M : Nat) : cmpS (sg s N) (sg t M) = if decide (cmpS (sg s N) 0 < cmpS (sg t M) 0) = true then -1 else if decide (cmpS (sg t M) 0 < cmpS (sg s N) 0) = true then 1 else if (cmpS (sg s N) 0 == -1) = true then cmpS (M : Int) (N : Int) else cmpS (N : Int) (M : Int) := by
 rcases cmp_range (sg s N) 0 with ⟨e, h⟩ | ⟨e, h⟩ | ⟨e, h⟩ <;> rcases cmp_range (sg t M) 0 with ⟨e', h'⟩ | ⟨e', h'⟩ | ⟨e', h'⟩ <;> rw [e, e'] <;> simp
 ·unfold sg at *; cases s <;> cases t <;> simp at h h' ⊢ <;> unfold cmpS <;> (repeat' split) <;> first | rfl | omega
 ·exact cmp_lt xq
 ·exact cmp_lt xq
 ·exact cmp_gt xq
 ·rw [h, h']; unfold sg at *; cases s <;> cases t <;> simp at h h' <;> rw [h, h'] <;> rfl
 ·exact cmp_lt xq
 ·exact cmp_gt xq
 ·exact cmp_gt xq
 unfold sg at *; cases s <;> cases t <;> simp at h h' ⊢ <;> first | rfl | omega
end Nt
theorem k_intCompare {u w : World} {i1 : IL} {zN : Int} {K : Nat} {i2 : IL} {zM : Int} {L : Nat} (d : Dat u w) (hi1 : IntV u i1 zN K) (hi2 : IntV u i2 zM L)  : qyc 245 #[i1.v, i2.v] w (Post u w fun v u' => v = .int .i64 (Nt.cmpS zN zM)) := by
 obtain ⟨N, hN, hzN⟩ := hi1
 obtain ⟨M, hM, hzM⟩ := hi2
 refine zzl (args := [i1.v, i2.v]) Tryz.func245 rfl Tryz.ntmps245 (rs := [.tmp 4]) Tryz.results245 (le_b rfl) (le_b rfl) d ?_
 refine sq9 (zzj 2 ⟨30, i1.cs⟩ (zzj 3 ⟨30, i2.cs⟩ (zza 4 (zI 0) (zzb (zzd (zzy [0, 1, 0, 7, 15, 31] [(0, []), (2, []), (1, []), (3, []), (4, []), (5, [])] xj xj (zzh 7 (.v (i1.v)) ty30 zze (zzh 9 (.v (i2.v)) ty30 zze (zzg 8 201 _ fun _ _ ad ak => qym (k_intSign ak (IntV.same (s := i1.s) (hN.ext ad))) ?_)))))))))
 rintro _ u12 af rfl
 refine zzg 10 201 _ fun _ _ ae am => qym (k_intSign am (IntV.same (s := i2.s) (hM.ext (ad.t (af.t ae))))) ?_
 rintro _ u16 ag rfl
 refine zza 5 (zI (Nt.cmpS (Nt.sg i1.s N) 0)) (zza 6 (zI (Nt.cmpS (Nt.sg i2.s M) 0)) (zzb (zzd (zzs (sq9 (zza 12 (zI (Nt.cmpS (Nt.sg i1.s N) 0)) (zza 13 (zI (Nt.cmpS (Nt.sg i2.s M) 0)) (zza 14 (zB (decide ((Nt.cmpS (Nt.sg i1.s N) 0) < (Nt.cmpS (Nt.sg i2.s M) 0)))) (zza 11 (zB (decide ((Nt.cmpS (Nt.sg i1.s N) 0) < (Nt.cmpS (Nt.sg i2.s M) 0)))) (zzb (zzt (b := decide ((Nt.cmpS (Nt.sg i1.s N) 0) < (Nt.cmpS (Nt.sg i2.s M) 0))) xj (fun aa => ?_) (fun aa => ?_))))))))))))
 ·have qhb19 := qyt aa
  refine sq9 (zza 4 (zI (-1)) (zzb (zzn (zyr (zzv (ret0 [.int .i64 (-1)] ⟨zzp, trivial⟩ fun u20 e21 => ?_))))))
  show _ = _
  rw [hzN, hzM, Nt.cmp_sg, if_pos aa]
  rfl
 have qhb19 := qyf aa
 refine sq9 (zza 16 (zI (Nt.cmpS (Nt.sg i1.s N) 0)) (zza 17 (zI (Nt.cmpS (Nt.sg i2.s M) 0)) (zza 18 (zB (decide ((Nt.cmpS (Nt.sg i2.s M) 0) < (Nt.cmpS (Nt.sg i1.s N) 0)))) (zza 15 (zB (decide ((Nt.cmpS (Nt.sg i2.s M) 0) < (Nt.cmpS (Nt.sg i1.s N) 0)))) (zzb (zzt (b := decide ((Nt.cmpS (Nt.sg i2.s M) 0) < (Nt.cmpS (Nt.sg i1.s N) 0))) xj (fun ab => ?_) (fun ab => ?_)))))))
 ·have qhb22 := qyt ab
  refine sq9 (zza 4 (zI 1) (zzb (zzn (zyr (zzv (ret0 [.int .i64 1] ⟨zzp, trivial⟩ fun u23 e24 => ?_))))))
  show _ = _
  rw [hzN, hzM, Nt.cmp_sg, if_neg (ne_true_of_eq_false aa), if_pos ab]
  rfl
 have qhb22 := qyf ab
 refine sq9 (zza 20 (zI (Nt.cmpS (Nt.sg i1.s N) 0)) (zza 21 (zB ((Nt.cmpS (Nt.sg i1.s N) 0) == (-1))) (zza 19 (zB ((Nt.cmpS (Nt.sg i1.s N) 0) == (-1))) (zzb (zzt (b := (Nt.cmpS (Nt.sg i1.s N) 0) == (-1)) xj (fun ac => ?_) (fun ac => ?_))))))
 ·refine sq9 (zza 22 (.adr 3 1) (zzh 23 (.v (i2.m.v)) ty28 zzk (zza 24 (.adr 2 1) (zzh 25 (.v (i1.m.v)) ty28 zzk (zzg 26 207 _ fun _ _ ai al => qym (k_natCompare al (hM.ext (ad.t (af.t (ae.t (ag.t ai))))) (hN.ext (ad.t (af.t (ae.t (ag.t ai)))))) ?_)))))
  rintro _ u27 g28 rfl
  refine zza 4 (zI (Nt.cmpS M N)) (zzb (zzn (zyr (zzv (ret0 [.int .i64 (Nt.cmpS M N)] ⟨zzp, trivial⟩ fun u30 e31 => ?_)))))
  show _ = _
  rw [hzN, hzM, Nt.cmp_sg, if_neg (ne_true_of_eq_false aa), if_neg (ne_true_of_eq_false ab), if_pos ac]
  rfl
 refine zzr (zzo ?_)
 refine sq9 (zza 27 (.adr 2 1) (zzh 28 (.v (i1.m.v)) ty28 zzk (zza 29 (.adr 3 1) (zzh 30 (.v (i2.m.v)) ty28 zzk (zzg 31 207 _ fun _ _ ah aj => qym (k_natCompare aj (hN.ext (ad.t (af.t (ae.t (ag.t ah))))) (hM.ext (ad.t (af.t (ae.t (ag.t ah)))))) ?_)))))
 rintro _ u33 g34 rfl
 refine zza 4 (zI (Nt.cmpS N M)) (zzb (zzn (ret0 [.int .i64 (Nt.cmpS N M)] ⟨zzp, trivial⟩ fun u36 e37 => ?_)))
 show _ = _
 rw [hzN, hzM, Nt.cmp_sg, if_neg (ne_true_of_eq_false aa), if_neg (ne_true_of_eq_false ab), if_neg (ne_true_of_eq_false ac)]
 rfl
theorem k_intOf {u w : World} {z : Int} (d : Dat u w) (h0 : -9223372036854775808 ≤ z) (h1 : z ≤ 9223372036854775807) : qyc 158 #[.int .i64 z] w (Post u w fun v u' => ∃ i : IL, v = i.v ∧ IntN u' i z 2) := by
 by_cases hneg : z < 0
 ·refine zzl (args := [.int .i64 z]) Tryz.func158 rfl Tryz.ntmps158 (rs := [.cell 2 30]) Tryz.results158 (le_b rfl) (le_b rfl) d ?_
  refine sq9 (zzj 2 ⟨30, [.bool false, qyn]⟩ (zzb (sq9 (zza 4 (zI z) (zyn 5 (x := .v (.int .u64 (IntKind.u64.wrap z))) (.v (.int .u64 (z + 18446744073709551616))) (by rw [show (IntKind.u64.wrap z) = (z + 18446744073709551616) from (by simp [IntKind.wrap, IntKind.bits, IntKind.signed]; omega)]) (zza 3 (.v (.int .u64 (z + 18446744073709551616))) (zzb (zzd (sq9 (zza 6 (zI z) (zyn 7 (x := zB (decide (z < 0))) (zB true) (by rw [show (decide (z < 0)) = true from yz]) ?_)))))))))))
  refine zzb (zyo xj (zzf (zza 8 (.v (.int .u64 (z + 18446744073709551616))) (zyn 9 (x := .v (.int .u64 (IntKind.u64.wrap (0 - (z + 18446744073709551616))))) (.v (.int .u64 (-z))) (by rw [show (IntKind.u64.wrap (0 - (z + 18446744073709551616))) = (-z) from (by simp [IntKind.wrap, IntKind.bits, IntKind.signed]; omega)]) (zza 3 (.v (.int .u64 (-z))) (zzb (sq9 (zza 10 (zI z) (zyn 11 (x := zB (decide (z < 0))) (zB true) (by rw [show (decide (z < 0)) = true from yz]) (zza 12 (.v (.int .u64 (-z))) (zyn 13 (x := .v (.int .u32 (IntKind.u32.wrap (-z)))) (.v (.int .u32 ((-z) % 4294967296))) (by rw [show (IntKind.u32.wrap (-z)) = ((-z) % 4294967296) from (IntKind.wrap_u32 _)]) ?_)))))))))))
  refine zza 14 (.v (.int .u64 (-z))) (zyn 15 (x := .v (.int .u64 (Int.fdiv (-z) (2 ^ 32)))) (.v (.int .u64 ((-z) / 4294967296))) (by rw [show (Int.fdiv (-z) (2 ^ 32)) = ((-z) / 4294967296) from (by rw [Int.fdiv_eq_ediv_of_nonneg _ yq]; rfl)]) (zyn 16 (x := .v (.int .u32 (IntKind.u32.wrap ((-z) / 4294967296)))) (.v (.int .u32 ((-z) / 4294967296))) (by rw [show (IntKind.u32.wrap ((-z) / 4294967296)) = ((-z) / 4294967296) from (IntWalk.u32_in _ xq)]) (zxp 17 ⟨132, [.int .u32 ((-z) % 4294967296), .int .u32 ((-z) / 4294967296)]⟩ 2 (fun aj ar aq ad => ?_))))
  refine zzg 18 265 [.slice (some ⟨aj, 0, none⟩) 2 2] ?_
  intro w15 u15 ac ai
  have k20 := k_natTrim ai ((two_data (N := z.natAbs) ad xq xq xq).ext ac) xq
  with_reducible refine zPm k20 ?_
  rintro _ ao al ⟨ak, rfl, af⟩
  refine zzg 19 264 [.bool true, ak.v] ?_
  intro w21 u21 ag ab
  have k26 := k_signed ab (s := true) (af.ext ag)
  with_reducible refine zPm k26 ?_
  rintro _ ap an ⟨aa, rfl, ah⟩
  refine zzi ⟨30, aa.cs⟩ ty30 ?_
  refine zzb (zzn (ret0 [aa.v] ⟨zzq ty30 zze, trivial⟩ fun am ae => ?_))
  refine ⟨aa, rfl, IntN.more (K := 2) ?_ xq⟩
  have e : z = Nt.sg true z.natAbs := by unfold Nt.sg; simp; omega
  rw [e]
  exact (ah.ext ae)
 refine zzl (args := [.int .i64 z]) Tryz.func158 rfl Tryz.ntmps158 (rs := [.cell 2 30]) Tryz.results158 (le_b rfl) (le_b rfl) d ?_
 refine sq9 (zzj 2 ⟨30, [.bool false, qyn]⟩ (zzb (sq9 (zza 4 (zI z) (zyn 5 (x := .v (.int .u64 (IntKind.u64.wrap z))) (.v (.int .u64 (z))) (by rw [show (IntKind.u64.wrap z) = z from (by simp [IntKind.wrap, IntKind.bits, IntKind.signed]; omega)]) (zza 3 (.v (.int .u64 z)) (zzb (zzd (sq9 (zza 6 (zI z) (zyn 7 (x := zB (decide (z < 0))) (zB false) (by rw [show (decide (z < 0)) = false from yz]) ?_)))))))))))
 refine zzb (zyp xj (zzr (zzo ?_)))
 refine sq9 (zza 10 (zI z) (zyn 11 (x := zB (decide (z < 0))) (zB false) (by rw [show (decide (z < 0)) = false from yz]) (zza 12 (.v (.int .u64 z)) (zyn 13 (x := .v (.int .u32 (IntKind.u32.wrap (z)))) (.v (.int .u32 ((z) % 4294967296))) (by rw [show (IntKind.u32.wrap (z)) = ((z) % 4294967296) from (IntKind.wrap_u32 _)]) (zza 14 (.v (.int .u64 z)) (zyn 15 (x := .v (.int .u64 (Int.fdiv (z) (2 ^ 32)))) (.v (.int .u64 ((z) / 4294967296))) (by rw [show (Int.fdiv (z) (2 ^ 32)) = ((z) / 4294967296) from (by rw [Int.fdiv_eq_ediv_of_nonneg _ yq]; rfl)]) (zyn 16 (x := .v (.int .u32 (IntKind.u32.wrap ((z) / 4294967296)))) (.v (.int .u32 ((z) / 4294967296))) (by rw [show (IntKind.u32.wrap ((z) / 4294967296)) = ((z) / 4294967296) from (IntWalk.u32_in _ xq)]) (zxp 17 ⟨132, [.int .u32 ((z) % 4294967296), .int .u32 ((z) / 4294967296)]⟩ 2 (fun aj ar aq ad => ?_)))))))))
 refine zzg 18 265 _ fun _ _ ac ai => qym (k_natTrim ai ((two_data (N := z.natAbs) ad xq xq xq).ext ac) xq) ?_
 rintro _ ao al ⟨ak, rfl, af⟩
 refine zzg 19 264 _ fun _ _ ag ab => qym (k_signed ab (s := false) (af.ext ag)) ?_
 rintro _ ap an ⟨aa, rfl, ah⟩
 refine zzi ⟨30, aa.cs⟩ ty30 ?_
 refine zzb (zzn (ret0 [aa.v] ⟨zzq ty30 zze, trivial⟩ fun am ae => ?_))
 refine ⟨aa, rfl, IntN.more (K := 2) ?_ xq⟩
 have e : z = Nt.sg false z.natAbs := by unfold Nt.sg; simp; omega
 rw [e]
 exact (ah.ext ae)
theorem k_natural {u w : World} {x : Sl} (d : Dat u w) : qyc 203 #[x.v] w (Post u w fun v _ => v = .agg #[.bool false, x.v]) := by
 refine zzl (args := [x.v]) Tryz.func203 rfl Tryz.ntmps203 (rs := [.cell 2 30]) Tryz.results203 (le_b rfl) (le_b rfl) d ?_
 refine sq9 (zzj 2 ⟨30, [.bool false, qyn]⟩ (zzb (sq9 (zza 3 (.v (x.v)) (zza 4 (.v (.agg #[.bool false, x.v])) (zzi ⟨30, [.bool false, x.v]⟩ ty30 ?_))))))
 refine zzb (zzn (ret0 [.agg #[.bool false, x.v]] ⟨zzq ty30 zze, trivial⟩ fun u11 e12 => ?_))
 exact rfl
theorem k_whole {u w : World} {i : IL} (d : Dat u w) : qyc 157 #[i.v] w (Post u w fun v u' => ∃ y : Sl, v = .agg #[.bool i.s, i.m.v, y.v] ∧ NatN u' y 1 1) := by
 refine zzl (args := [i.v]) Tryz.func157 rfl Tryz.ntmps157 (rs := [.cell 2 32]) Tryz.results157 (le_b rfl) (le_b rfl) d ?_
 refine sq9 (zzj 1 ⟨30, i.cs⟩ (zzj 2 ⟨32, zw3⟩ (zzb (sq9 (zzh 3 (.v (i.v)) ty30 zze (zxp 4 ⟨132, [.int .u32 1]⟩ 1 (fun aa u12 e13 ac => ?_)))))))
 refine zza 5 (.v (.agg #[.bool i.s, i.m.v, .slice (some ⟨aa, 0, none⟩) 1 1])) (zzi ⟨32, i.cs ++ [.slice (some ⟨aa, 0, none⟩) 1 1]⟩ ty32 ?_)
 refine zzb (zzn (ret0 [.agg #[.bool i.s, i.m.v, .slice (some ⟨aa, 0, none⟩) 1 1]] ⟨zzq ty32 zze, trivial⟩ fun u15 ab => ?_))
 exact ⟨_, rfl, ((one_data ac).ext ab)⟩
theorem k_quotient {u w : World} {i j : IL} (d : Dat u w) : qyc 204 #[i.v, j.v] w (Post u w fun v _ => v = .agg #[.bool (!(i.s == j.s)), i.m.v, j.m.v]) := by
 refine zzl (args := [i.v, j.v]) Tryz.func204 rfl Tryz.ntmps204 (rs := [.cell 4 221]) Tryz.results204 (le_b rfl) (le_b rfl) d ?_
 refine sq9 (zzj 2 ⟨30, i.cs⟩ (zzj 3 ⟨30, j.cs⟩ (zzj 4 ⟨221, zw3⟩ (zzb (sq9 (zza 5 (.adr 2 0) (zzh 6 (zB i.s) ty4 zzk (zza 7 (.adr 3 0) (zzh 8 (zB j.s) ty4 zzk (zza 9 (zB (!(i.s == j.s))) (zza 10 (.adr 2 1) ?_)))))))))))
 refine zzh 11 (.v (i.m.v)) ty28 zzk (zza 12 (.v (.agg #[.bool (!(i.s == j.s)), i.m.v])) (zza 13 (.adr 3 1) (zzh 14 (.v (j.m.v)) ty28 zzk (zza 15 (.v (.agg #[.bool (!(i.s == j.s)), i.m.v, j.m.v])) (zzi ⟨221, [.bool (!(i.s == j.s)), i.m.v, j.m.v]⟩ ty221 ?_)))))
 refine zzb (zzn (ret0 [.agg #[.bool (!(i.s == j.s)), i.m.v, j.m.v]] ⟨zzq ty221 zze, trivial⟩ fun u11 e12 => ?_))
 exact rfl
theorem k_flip {u w : World} {r : RL} (d : Dat u w) : qyc 209 #[r.v] w (Post u w fun v _ => v = .agg #[.bool (!r.s), r.m.v, r.d.v]) := by
 refine zzl (args := [r.v]) Tryz.func209 rfl Tryz.ntmps209 (rs := [.cell 2 32]) Tryz.results209 (le_b rfl) (le_b rfl) d ?_
 refine sq9 (zzj 1 ⟨32, r.cs⟩ (zzj 2 ⟨32, zw3⟩ (zzb (sq9 (zza 3 (.adr 1 0) (zza 4 (.adr 1 0) (zzh 5 (zB r.s) ty4 zzk (zza 6 (zB (!r.s)) (zza 7 (.adr 1 0) (zza 8 (.adr 1 1) (zzh 9 (.v (r.m.v)) ty28 zzk ?_)))))))))))
 refine zza 10 (.v (.agg #[.bool (!r.s), r.m.v])) (zza 11 (.adr 1 2) (zzh 12 (.v (r.d.v)) ty28 zzk (zza 13 (.v (.agg #[.bool (!r.s), r.m.v, r.d.v])) (zzi ⟨32, [.bool (!r.s), r.m.v, r.d.v]⟩ ty32 ?_))))
 refine zzb (zzn (ret0 [.agg #[.bool (!r.s), r.m.v, r.d.v]] ⟨zzq ty32 zze, trivial⟩ fun u11 e12 => ?_))
 exact rfl
theorem k_read {u w : World} {r : RL} {q : Rat} {K : Nat} (d : Dat u w) (h : RatV u r q K) : qyc 200 #[r.v] w (Post u w fun v u' => ∃ (r' : RL) (wh : Bool), v = .agg #[.bool r'.s, r'.m.v, r'.d.v, .bool wh] ∧ NumV u' r' wh q K) := by
 obtain ⟨⟨z, D, hi, hd, hq⟩, hK⟩ := h
 change IntV u ⟨r.s, r.m⟩ z K at hi
 change NatV u r.d D K at hd
 by_cases hn : r.d.n = 1
 ·obtain ⟨b, o, ha, hc⟩ := nat_digit hd hn
  by_cases hD : D = 1
  ·refine zzl (args := [r.v]) Tryz.func200 rfl Tryz.ntmps200 (rs := [.cell 2 223]) Tryz.results200 (le_b rfl) (le_b rfl) d ?_
   refine sq9 (zzj 1 ⟨32, r.cs⟩ (zzj 2 ⟨223, [.bool false, qyn, qyn, .bool false]⟩ (zzb (zzd (sq9 (zza 3 (.adr 1 2) (zzh 4 (.v (r.d.v)) ty28 zzk (zza 5 (zI r.d.n) (zyn 6 (x := zB ((r.d.n : Int) == 1)) (zB true) (by rw [show ((r.d.n : Int) == 1) = true from (by simp [hn])]) (zza 7 (zB true) (zza 8 (.adr 1 2) ?_ (hw := w1 4 true 7))))))))))))
   refine zzh 9 (.v (r.d.v)) ty28 zzk ?_ (hw := w1 4 true 7)
   refine zzz 10 o (i := 0) (n := r.d.n) (by simp) ha xq (by rw [hn]; decide) sl28 ?_ (hw := w1 4 true 7)
   refine zyk 11 (.int .u32 D) ((Ext.refl _).cell hc) ty132 ?_ (hw := w1 4 true 7)
   refine zyn 12 (x := zB ((D : Int) == 1)) (zB true) (by rw [show ((D : Int) == 1) = true from (by simp [hD])]) ?_ (hw := w1 4 true 7)
   refine zza 13 (zB true) (zzb (zyo xj (sq9 (zza 14 (.adr 1 0) (zzh 15 (.v (.agg #[.bool r.s, r.m.v])) ty30 zze (zza 16 (.adr 1 2) (zzh 17 (.v (r.d.v)) ty28 zzk (zza 18 (.v (r.v)) (zza 19 (.v (.agg #[.bool r.s, r.m.v, r.d.v, .bool true])) (zzi ⟨223, r.cs ++ [.bool true]⟩ ty223 ?_))))))))))
   refine zzb (zzn (zzv (ret0 [.agg #[.bool r.s, r.m.v, r.d.v, .bool true]] ⟨zzq ty223 zze, trivial⟩ fun am aj => ?_)))
   exact ⟨r, true, rfl, z, D, hi.ext aj, hd.ext aj, by omega, hq, fun _ => hD, hK⟩
  refine zzl (args := [r.v]) Tryz.func200 rfl Tryz.ntmps200 (rs := [.cell 2 223]) Tryz.results200 (le_b rfl) (le_b rfl) d ?_
  refine sq9 (zzj 1 ⟨32, r.cs⟩ (zzj 2 ⟨223, [.bool false, qyn, qyn, .bool false]⟩ (zzb (zzd (sq9 (zza 3 (.adr 1 2) (zzh 4 (.v (r.d.v)) ty28 zzk (zza 5 (zI r.d.n) (zyn 6 (x := zB ((r.d.n : Int) == 1)) (zB true) (by rw [show ((r.d.n : Int) == 1) = true from (by simp [hn])]) (zza 7 (zB true) (zza 8 (.adr 1 2) ?_ (hw := w1 4 true 7))))))))))))
  refine zzh 9 (.v (r.d.v)) ty28 zzk ?_ (hw := w1 4 true 7)
  refine zzz 10 o (i := 0) (n := r.d.n) (by simp) ha xq (by rw [hn]; decide) sl28 ?_ (hw := w1 4 true 7)
  refine zyk 11 (.int .u32 D) ((Ext.refl _).cell hc) ty132 ?_ (hw := w1 4 true 7)
  refine zyn 12 (x := zB ((D : Int) == 1)) (zB false) (by rw [show ((D : Int) == 1) = false from yz]) ?_ (hw := w1 4 true 7)
  refine zza 13 (zB false) (zzb (zyp xj (zzr (zzo ?_))))
  refine zzd (sq9 (zza 20 (.adr 1 2) (zzh 21 (.v (r.d.v)) ty28 zzk (zzg 22 207 [r.d.v, qyn] ?_))))
  intro w11 am ad ag
  have k14 := k_natCompare ag (hd.ext ad) (nat_nil _ 1)
  with_reducible refine zPm k14 ?_
  rintro _ ao af rfl
  refine zza 23 (zB ((Nt.cmpS D 0) == 0)) (zzb (zzt (b := (Nt.cmpS D 0) == 0) xj (fun aa => ?_) (fun aa => ?_)))
  ·refine sq9 (zza 24 (.v (.agg #[.bool false, qyn])) (zxp 25 ⟨132, [.int .u32 1]⟩ 1 (fun ab an ak ah => ?_)))
   refine zza 26 (.v (.agg #[.bool false, qyn, .slice (some ⟨ab, 0, none⟩) 1 1])) (zza 27 (.v (.agg #[.bool false, qyn, .slice (some ⟨ab, 0, none⟩) 1 1, .bool true])) (zzi ⟨223, [.bool false, qyn, .slice (some ⟨ab, 0, none⟩) 1 1, .bool true]⟩ ty223 ?_))
   refine zzb (zzn (zzv (ret0 [.agg #[.bool false, qyn, .slice (some ⟨ab, 0, none⟩) 1 1, .bool true]] ⟨zzq ty223 zze, trivial⟩ fun al ai => ?_)))
   have ac : D = 0 := (Nt.cmp_nat0 aa).1 rfl
   refine ⟨⟨false, ⟨none, 0, 0⟩, (⟨some ⟨ab, 0, none⟩, 1, 1⟩ : Sl)⟩, true, rfl, 0, 1, (⟨0, nat_nil _ K, rfl⟩ : IntV _ ⟨false, ⟨none, 0, 0⟩⟩ 0 K), ((one_data ah).ext ai).raw.more hK, by omega, ?_, fun _ => rfl, hK⟩
   rw [hq, ac]; simp
  refine zzr (zzo ?_)
  refine sq9 (zza 28 (.adr 1 0) (zzh 29 (.v (.agg #[.bool r.s, r.m.v])) ty30 zze (zza 30 (.adr 1 2) (zzh 31 (.v (r.d.v)) ty28 zzk (zza 32 (.v (r.v)) (zza 33 (.v (.agg #[.bool r.s, r.m.v, r.d.v, .bool false])) (zzi ⟨223, r.cs ++ [.bool false]⟩ ty223 ?_)))))))
  refine zzb (zzn (ret0 [.agg #[.bool r.s, r.m.v, r.d.v, .bool false]] ⟨zzq ty223 zze, trivial⟩ fun ap ae => ?_))
  have ac : 0 < D := (Nt.cmp_nat0 aa).2 rfl
  exact ⟨r, false, rfl, z, D, hi.ext (ad.t (af.t ae)), hd.ext (ad.t (af.t ae)), ac, hq, (fun k => by cases k), hK⟩
 refine zzl (args := [r.v]) Tryz.func200 rfl Tryz.ntmps200 (rs := [.cell 2 223]) Tryz.results200 (le_b rfl) (le_b rfl) d ?_
 refine sq9 (zzj 1 ⟨32, r.cs⟩ (zzj 2 ⟨223, [.bool false, qyn, qyn, .bool false]⟩ (zzb (zzd (sq9 (zza 3 (.adr 1 2) (zzh 4 (.v (r.d.v)) ty28 zzk (zza 5 (zI r.d.n) (zyn 6 (x := zB ((r.d.n : Int) == 1)) (zB false) (by rw [show ((r.d.n : Int) == 1) = false from yz]) (zza 7 (zB false) (zzm 8 (uw 4 true false 7) ?_)))))))))))
 refine zzm 9 (uw 4 true false 7) (zzm 10 (uw 4 true false 7) (zzm 11 (uw 4 true false 7) (zzm 12 (uw 4 true false 7) (zza 13 (zB false) (zzb (zyp xj (zzr (zzo ?_))))))))
 refine zzd (sq9 (zza 20 (.adr 1 2) (zzh 21 (.v (r.d.v)) ty28 zzk (zzg 22 207 _ fun _ _ ad ag => qym (k_natCompare ag (hd.ext ad) (nat_nil _ 1)) ?_))))
 rintro _ ao af rfl
 refine zza 23 (zB ((Nt.cmpS D 0) == 0)) (zzb (zzt (b := (Nt.cmpS D 0) == 0) xj (fun aa => ?_) (fun aa => ?_)))
 ·refine sq9 (zza 24 (.v (.agg #[.bool false, qyn])) (zxp 25 ⟨132, [.int .u32 1]⟩ 1 (fun ab an ak ah => ?_)))
  refine zza 26 (.v (.agg #[.bool false, qyn, .slice (some ⟨ab, 0, none⟩) 1 1])) (zza 27 (.v (.agg #[.bool false, qyn, .slice (some ⟨ab, 0, none⟩) 1 1, .bool true])) (zzi ⟨223, [.bool false, qyn, .slice (some ⟨ab, 0, none⟩) 1 1, .bool true]⟩ ty223 ?_))
  refine zzb (zzn (zzv (ret0 [.agg #[.bool false, qyn, .slice (some ⟨ab, 0, none⟩) 1 1, .bool true]] ⟨zzq ty223 zze, trivial⟩ fun al ai => ?_)))
  have ac : D = 0 := (Nt.cmp_nat0 aa).1 rfl
  refine ⟨⟨false, ⟨none, 0, 0⟩, (⟨some ⟨ab, 0, none⟩, 1, 1⟩ : Sl)⟩, true, rfl, 0, 1, (⟨0, nat_nil _ K, rfl⟩ : IntV _ ⟨false, ⟨none, 0, 0⟩⟩ 0 K), ((one_data ah).ext ai).raw.more hK, by omega, ?_, fun _ => rfl, hK⟩
  rw [hq, ac]; simp
 refine zzr (zzo ?_)
 refine sq9 (zza 28 (.adr 1 0) (zzh 29 (.v (.agg #[.bool r.s, r.m.v])) ty30 zze (zza 30 (.adr 1 2) (zzh 31 (.v (r.d.v)) ty28 zzk (zza 32 (.v (r.v)) (zza 33 (.v (.agg #[.bool r.s, r.m.v, r.d.v, .bool false])) (zzi ⟨223, r.cs ++ [.bool false]⟩ ty223 ?_)))))))
 refine zzb (zzn (ret0 [.agg #[.bool r.s, r.m.v, r.d.v, .bool false]] ⟨zzq ty223 zze, trivial⟩ fun ap ae => ?_))
 have ac : 0 < D := (Nt.cmp_nat0 aa).2 rfl
 exact ⟨r, false, rfl, z, D, hi.ext (ad.t (af.t ae)), hd.ext (ad.t (af.t ae)), ac, hq, (fun k => by cases k), hK⟩
theorem k_isOne {u w : World} {x : Sl} {N K : Nat} (d : Dat u w) (h : NatN u x N K) : qyc 294 #[x.v] w (Post u w fun v _ => v = .bool (decide (N = 1))) := by
 by_cases hn : x.n = 1
 ·obtain ⟨b, o, ha, hc⟩ := nat_digit h.raw hn
  refine zzl (args := [x.v]) Tryz.func294 rfl Tryz.ntmps294 (rs := [.tmp 2]) Tryz.results294 (le_b rfl) (le_b rfl) d ?_
  refine sq9 (zza 2 (zB false) (zzb (sq9 (zza 3 (.v (x.v)) (zza 4 (zI x.n) (zyn 5 (x := zB ((x.n : Int) == 1)) (zB true) (by rw [show ((x.n : Int) == 1) = true from (by simp [hn])]) (zza 6 (zB true) (zza 7 (.v (x.v)) ?_ (hw := w1 3 true 6)))))))))
  refine zzz 8 o (i := 0) (n := x.n) (by simp) ha xq (by rw [hn]; decide) sl28 ?_ (hw := w1 3 true 6)
  refine zyk 9 (.int .u32 N) ((Ext.refl _).cell hc) ty132 ?_ (hw := w1 3 true 6)
  refine zza 10 (zB ((N : Int) == 1)) ?_ (hw := w1 3 true 6)
  refine zza 11 (zB ((N : Int) == 1)) (zza 2 (zB ((N : Int) == 1)) (zzb (zzn (ret0 [.bool ((N : Int) == 1)] ⟨zzp, trivial⟩ fun ab aa => ?_))))
  show Value.bool _ = Value.bool _
  congr 1
  rw [Bool.eq_iff_iff]
  simp <;> omega
 have hN : N ≠ 1 := fun e => hn (by rw [h.1, e, Nt.dl_one])
 refine zzl (args := [x.v]) Tryz.func294 rfl Tryz.ntmps294 (rs := [.tmp 2]) Tryz.results294 (le_b rfl) (le_b rfl) d ?_
 refine sq9 (zza 2 (zB false) (zzb (sq9 (zza 3 (.v (x.v)) (zza 4 (zI x.n) (zyn 5 (x := zB ((x.n : Int) == 1)) (zB false) (by rw [show ((x.n : Int) == 1) = false from yz]) (zza 6 (zB false) (zzm 7 (uw 3 true false 6) (zzm 8 (uw 3 true false 6) (zzm 9 (uw 3 true false 6) (zzm 10 (uw 3 true false 6) ?_)))))))))))
 refine zza 11 (zB false) (zza 2 (zB false) (zzb (zzn (ret0 [.bool false] ⟨zzp, trivial⟩ fun ab aa => ?_))))
 show _ = _
 simp [tupV]
 exact hN
theorem k_lowest {u w : World} {i : IL} {z : Int} {y : Sl} {D K L : Nat} (d : Dat u w) (h1 : IntV u i z K) (hD : NatV u y D L) (hp : 0 < D) (hK : K ≤ 500000000) (hL : L ≤ 500000000) : qyc 205 #[.agg #[.bool i.s, i.m.v, y.v]] w (Post u w fun v u' => ∃ r : RL, v = r.v ∧ RatN u' r (mkRat z D) (max K L)) := by
 obtain ⟨N, hN, hz⟩ := h1
 have hL1 : 1 ≤ L := by have h2 := hD.size; have h3 := Nt.dl_mono (x := D) (y := 1) xq; rw [Nt.dl_one] at h3; omega
 refine zzl (args := [.agg #[.bool i.s, i.m.v, y.v]]) Tryz.func205 rfl Tryz.ntmps205 (rs := [.cell 2 32]) Tryz.results205 (le_b rfl) (le_b rfl) d ?_
 refine sq9 (zzj 1 ⟨221, i.cs ++ [y.v]⟩ (zzj 2 ⟨32, zw3⟩ (zzb (sq9 (zza 14 (.adr 1 0) (zza 15 (.adr 1 1) (zzh 16 (.v (i.m.v)) ty28 zzk (zza 17 (.adr 1 2) (zzh 18 (.v (y.v)) ty28 zzk (zzg 19 211 _ fun _ _ ah aQ => qym (k_natDivMod aQ (hN.ext ah) (hD.ext ah) hp xq xq) ?_))))))))))
 rintro _ u16 ap ⟨am, ae, rfl, aK, az⟩
 refine zza 13 (.v (.tuple #[am.v, ae.v, .int .i64 0])) (zza 20 (.v (am.v)) (zza 21 (.v (ae.v)) (zza 22 (zI 0) (zza 3 (.v (am.v)) (zza 4 (.v (ae.v)) (zza 5 (zI 0) (zzb (zzd (sq9 (zza 23 (.v (ae.v)) (zza 24 (zI ae.n) ?_)))))))))))
 refine zza 25 (zB ((ae.n : Int) == 0)) (zzb (zzt (b := (ae.n : Int) == 0) xj (fun ab => ?_) (fun ab => ?_)))
 ·have an : (ae.n : Int) = 0 := by simpa using ab
  have hr : N % D = 0 := by have h7 := (az).pos; simp at ab; omega
  refine sq9 (zza 26 (.adr 1 0) (zza 27 (.adr 1 0) (zzh 28 (zB i.s) ty4 zzk (zza 29 (.v (am.v)) (zza 30 (.v (.agg #[.bool i.s, am.v])) (zzg 31 292 _ fun _ _ aT aX => qym (k_intTrim aX (IntV.same (s := i.s) (aK.ext aT).raw) xq) ?_))))))
  rintro _ u23 g24 ⟨ak, rfl, aM⟩
  refine zzg 32 157 _ fun _ _ aP aW => qym (k_whole (i := ak) aW) ?_
  rintro _ u29 aH ⟨ax, rfl, aY⟩
  refine zzi ⟨32, ak.cs ++ [ax.v]⟩ ty32 ?_
  refine zzb (zzn (zzv (ret0 [.agg #[.bool ak.s, ak.m.v, ax.v]] ⟨zzq ty32 zze, trivial⟩ fun u32 aU => ?_)))
  refine ⟨(⟨ak.s, ak.m, ax⟩ : RL), rfl, RatN.more (K := (max K 1)) ?_ xq⟩
  rw [hz, ← low1 hp hr]
  exact ((whole_rat (aM.ext (aP.t aH.ext)) aY).ext aU)
 have an : ¬ ((ae.n : Int) = 0) := by simpa using ab
 have hr : N % D ≠ 0 := by have h7 := (az).pos; simp at ab; omega
 refine zzr (zzo ?_)
 refine sq9 (zza 33 (.adr 1 2) (zzh 34 (.v (y.v)) ty28 zzk (zza 35 (.v (ae.v)) (zzg 36 293 _ fun _ _ al aJ => qym (k_natGcd aJ (hD.ext (ah.t (ap.t al))) (az.ext al).raw xq xq) ?_))))
 rintro _ u37 ar ⟨ao, rfl, au⟩
 refine zza 6 (.v (ao.v)) (zzb (zzd (sq9 (zza 37 (.v (ao.v)) (zzg 38 294 _ fun _ _ ag aG => qym (k_isOne aG (au.ext ag)) ?_)))))
 rintro _ u41 aj rfl
 refine zzb (zzt (b := decide ((Nat.gcd D (N % D)) = 1)) xj (fun ac => ?_) (fun ac => ?_))
 ·have qhb44 := qyt ac
  have hg : Nat.gcd D (N % D) = 1 := by simpa using ac
  have hgp : 0 < Nat.gcd D (N % D) := Nat.gcd_pos_of_pos_left _ hp
  refine zzd (zzy [0, 1, 3, 0, 8, 31, 63, 127] [(0, []), (1, []), (3, []), (4, []), (2, []), (5, []), (6, []), (7, [])] xj xj (zza 39 (.adr 1 0) (zzh 40 (.v (i.v)) ty30 zze (zza 42 (.adr 1 2) (zzh 43 (.v (y.v)) ty28 zzk (zzg 41 292 _ fun _ _ aE a0 => qym (k_intTrim a0 (IntV.same (s := i.s) (hN.ext (ah.t (ap.t (al.t (ar.t (ag.t (aj.t aE)))))))) xq) ?_))))))
  rintro _ u48 aZ ⟨ad, rfl, aO⟩
  refine zzg 44 265 _ fun _ _ aB aF => qym (k_natTrim aF (hD.ext (ah.t (ap.t (al.t (ar.t (ag.t (aj.t (aE.t (aZ.t aB))))))))) xq) ?_
  rintro _ u54 aV ⟨ai, rfl, aL⟩
  refine zza 45 (.v (.agg #[.bool ad.s, ad.m.v, ai.v])) (zzi ⟨32, ad.cs ++ [ai.v]⟩ ty32 ?_)
  refine zzc 70 [(2, .adr 2 0)] [(2, ⟨32, ad.cs ++ [ai.v]⟩)] (zzn (zzv (ret0 [.agg #[.bool ad.s, .slice ad.m.a ad.m.n ad.m.c, .slice ai.a ai.n ai.c]] ⟨zzq ty32 zze, trivial⟩ fun u57 aC => ?_)))
  refine ⟨(⟨ad.s, ad.m, ai⟩ : RL), rfl, ?_⟩
  rw [hz]
  exact low2 hp hg (aO.ext (aB.t (aV.t aC))) (aL.ext aC)
 have qhb44 := qyf ac
 have hg : ¬ Nat.gcd D (N % D) = 1 := by simpa using ac
 have hgp : 0 < Nat.gcd D (N % D) := Nat.gcd_pos_of_pos_left _ hp
 refine zzr (zzo ?_)
 refine sq9 (zza 47 (.adr 1 0) (zza 48 (.adr 1 1) (zzh 49 (.v (i.m.v)) ty28 zzk (zza 50 (.v (ao.v)) (zzg 51 211 _ fun _ _ aq aR => qym (k_natDivMod aR (hN.ext (ah.t (ap.t (al.t (ar.t (ag.t (aj.t aq))))))) (au.ext (ag.t (aj.t aq))).raw hgp xq xq) ?_)))))
 rintro _ u64 aD ⟨aa, ay, rfl, aS, h63⟩
 refine zza 46 (.v (.tuple #[aa.v, ay.v, .int .i64 0])) (zza 52 (.v (aa.v)) (zza 53 (.v (ay.v)) (zza 54 (zI 0) (zza 7 (.v (aa.v)) (zza 8 (.v (ay.v)) (zza 9 (zI 0) (zzc 70 [(1, .adr 1 0), (2, .adr 2 0), (6, .v (ao.v)), (7, .v (aa.v))] [(1, ⟨221, i.cs ++ [y.v]⟩), (2, ⟨32, zw3⟩)] (sq9 (zza 56 (.adr 1 2) (zzh 57 (.v (y.v)) ty28 zzk (zza 58 (.v (ao.v)) ?_)))))))))))
 refine zzg 59 211 _ fun _ _ av aI => qym (k_natDivMod aI (hD.ext (ah.t (ap.t (al.t (ar.t (ag.t (aj.t (aq.t (aD.t av))))))))) (au.ext (ag.t (aj.t (aq.t (aD.t av))))).raw hgp xq xq) ?_
 rintro _ u72 aN ⟨af, aw, rfl, a1, h71⟩
 refine zza 55 (.v (.tuple #[af.v, aw.v, .int .i64 0])) (zza 60 (.v (af.v)) (zza 61 (.v (aw.v)) (zza 62 (zI 0) (zza 10 (.v (af.v)) (zza 11 (.v (aw.v)) (zza 12 (zI 0) (zzb (sq9 (zza 63 (.adr 1 0) (zza 64 (.adr 1 0) (zzh 65 (zB i.s) ty4 zzk ?_)))))))))))
 refine zza 66 (.v (aa.v)) (zza 67 (.v (.agg #[.bool i.s, aa.v])) (zza 68 (.v (af.v)) (zza 69 (.v (.agg #[.bool i.s, aa.v, af.v])) (zzi ⟨32, [.bool i.s, aa.v, af.v]⟩ ty32 ?_))))
 refine zzb (zzn (ret0 [.agg #[.bool i.s, .slice aa.a aa.n aa.c, .slice af.a af.n af.c]] ⟨zzq ty32 zze, trivial⟩ fun u75 aA => ?_))
 refine ⟨(⟨i.s, aa, af⟩ : RL), rfl, RatN.more (K := max K L) ?_ xq⟩
 rw [hz]
 exact low3 hp hr (aS.ext (av.t (aN.t aA))) (a1.ext aA)
theorem k_ratTrim {u w : World} {r1 : RL} {x : Rat} {K : Nat} (d : Dat u w) (hr1 : RatV u r1 x K) (hK : K ≤ 200000000) : qyc 156 #[r1.v] w (Post u w fun v u' => ∃ r : RL, v = r.v ∧ RatN u' r x K) := by
 refine zzl (args := [r1.v]) Tryz.func156 rfl Tryz.ntmps156 (rs := [.cell 2 32]) Tryz.results156 (le_b rfl) (le_b rfl) d ?_
 refine sq9 (zzj 1 ⟨32, r1.cs⟩ (zzj 2 ⟨32, zw3⟩ (zzb (sq9 (zzh 3 (.v (r1.v)) ty32 zze (zzg 4 200 _ fun _ _ ai aj => qym (k_read aj (hr1.ext ai)) ?_))))))
 rintro _ u13 g14 ⟨al, ag, rfl, z12, D12, ad, ab, ac, aa, an, ak⟩
 refine zza 5 (.v (al.v)) (zzg 6 205 _ fun _ _ af ao => qym (k_lowest ao (ad.ext af) (ab.ext af) ac xq xq) ?_)
 rintro _ u19 g20 ⟨ae, rfl, ah⟩
 refine zzi ⟨32, ae.cs⟩ ty32 ?_
 refine zzb (zzn (ret0 [ae.v] ⟨zzq ty32 zze, trivial⟩ fun u22 am => ?_))
 refine ⟨ae, rfl, RatN.more (K := (max K K)) ?_ xq⟩
 rw [aa]; exact (ah.ext am)
theorem k_ratOf {u w : World} {z : Int} (d : Dat u w) (h0 : -9223372036854775808 ≤ z) (h1 : z ≤ 9223372036854775807) : qyc 53 #[.int .i64 z] w (Post u w fun v u' => ∃ r : RL, v = r.v ∧ RatN u' r (z : Rat) 2) := by
 refine zzl (args := [.int .i64 z]) Tryz.func53 rfl Tryz.ntmps53 (rs := [.cell 2 32]) Tryz.results53 (le_b rfl) (le_b rfl) d ?_
 refine sq9 (zzj 2 ⟨32, zw3⟩ (zzb (sq9 (zza 3 (zI z) (zzg 4 158 _ fun _ _ _ ae => qym (k_intOf ae (z := z) xq xq) ?_)))))
 rintro _ u14 g15 ⟨aa, rfl, af⟩
 refine zzg 5 157 _ fun _ _ ah ag => qym (k_whole (i := aa) ag) ?_
 rintro _ u20 ai ⟨ab, rfl, ad⟩
 refine zzi ⟨32, aa.cs ++ [ab.v]⟩ ty32 ?_
 refine zzb (zzn (ret0 [.agg #[.bool aa.s, aa.m.v, ab.v]] ⟨zzq ty32 zze, trivial⟩ fun u23 ac => ?_))
 refine ⟨(⟨aa.s, aa.m, ab⟩ : RL), rfl, RatN.more (K := (max 2 1)) ?_ xq⟩
 exact ((whole_rat (af.ext (ah.t ai.ext)) ad).ext ac)
theorem k_ratCompare {u w : World} {r1 : RL} {x : Rat} {K : Nat} {r2 : RL} {y : Rat} {L : Nat} (d : Dat u w) (hr1 : RatV u r1 x K) (hr2 : RatV u r2 y L) (hK : K ≤ 200000000) (hL : L ≤ 200000000) : qyc 133 #[r1.v, r2.v] w (Post u w fun v u' => v = .int .i64 (Nt.cmpQ x y)) := by
 refine zzl (args := [r1.v, r2.v]) Tryz.func133 rfl Tryz.ntmps133 (rs := [.tmp 4]) Tryz.results133 (le_b rfl) (le_b rfl) d ?_
 refine sq9 (zzj 2 ⟨32, r1.cs⟩ (zzj 3 ⟨32, r2.cs⟩ (zza 4 (zI 0) (zzb (zzd (zzy [0, 1, 0, 7, 0, 0, 63, 127] [(0, []), (2, []), (4, []), (5, []), (1, []), (3, []), (6, []), (7, [])] xj xj (zzh 7 (.v (r1.v)) ty32 zze (zzh 9 (.v (r2.v)) ty32 zze (zzj 5 ⟨223, [.bool false, qyn, qyn, .bool false]⟩ (zzj 6 ⟨223, [.bool false, qyn, qyn, .bool false]⟩ (zzg 8 200 _ fun _ _ aN a2 => qym (k_read a2 (hr1.ext aN)) ?_)))))))))))
 rintro _ u13 aV ⟨ad, ab, rfl, af, ao, ah, ar, am, aj, aI, aS⟩
 refine zzg 10 200 _ fun _ _ an a5 => qym (k_read a5 (hr2.ext (aN.t (aV.t an)))) ?_
 rintro _ u18 aq ⟨ae, aa, rfl, ag, ap, al, au, ai, ak, aH, a7⟩
 refine zzi ⟨223, ad.cs ++ [.bool ab]⟩ ty223 ?_
 refine zzi ⟨223, ae.cs ++ [.bool aa]⟩ ty223 ?_
 refine zzb (zzd (sq9 (zza 11 (.adr 5 3) (zzh 12 (zB ab) ty4 zzk ?_))))
 rcases Bool.eq_false_or_eq_true ab with hs21 | hs21
 ·refine zyn 13 (x := zB ab) (zB true) (by rw [hs21]) (zza 14 (.adr 6 3) ?_ (hw := w1 2 true 13))
  refine zzh 15 (zB aa) ty4 zzk ?_ (hw := w1 2 true 13)
  refine zza 16 (zB aa) (zzb (zzt (b := aa) xj (fun ac => ?_) (fun ac => ?_)))
  ·replace ac : aa = true := ac
   refine sq9 (zza 17 (.adr 5 0) (zza 18 (.adr 5 0) (zzh 19 (.v (.agg #[.bool ad.s, ad.m.v])) ty30 zze (zza 20 (.adr 6 0) (zza 21 (.adr 6 0) (zzh 22 (.v (.agg #[.bool ae.s, ae.m.v])) ty30 zze (zzg 23 245 _ fun _ _ aM a4 => qym (k_intCompare a4 (ah.ext (an.t (aq.t aM))) (al.ext aM)) ?_)))))))
   rintro _ u24 g25 rfl
   refine zza 4 (zI (Nt.cmpS af ag)) (zzb (zzn (zzv (ret0 [.int .i64 (Nt.cmpS af ag)] ⟨zzp, trivial⟩ fun u27 e28 => ?_))))
   show _ = _
   rw [aj, ak, ← Nt.cmp_mk am ai]
   rw [aI (by assumption), aH (by assumption)]
   simp [tupV]
  replace ac : aa = false := ac
  refine zzr (zzo ?_)
  refine zzd (zzy [0, 1, 3, 0, 8, 24, 56, 127, 0, 256, 768, 0, 2048, 6144, 14591, 32767, 65535, 131071] [(0, []), (1, []), (2, []), (3, []), (4, []), (5, []), (8, []), (9, []), (10, []), (11, []), (12, []), (13, []), (6, []), (7, []), (14, []), (15, []), (16, []), (17, [])] xj xj (zza 24 (.adr 5 0) (zza 25 (.adr 5 0) (zzh 26 (.v (.agg #[.bool ad.s, ad.m.v])) ty30 zze (zza 27 (.adr 6 0) (zza 28 (.adr 6 2) (zzh 29 (.v (ae.d.v)) ty28 zzk (zza 32 (.adr 6 0) (zza 33 (.adr 6 0) (zzh 34 (.v (.agg #[.bool ae.s, ae.m.v])) ty30 zze (zza 35 (.adr 5 0) ?_)))))))))))
  refine zza 36 (.adr 5 2) (zzh 37 (.v (ad.d.v)) ty28 zzk (zzg 30 203 _ fun _ _ aw aU => qym (k_natural (x := ae.d) aU) ?_))
  rintro _ u30 aA rfl
  refine zzg 31 202 _ fun _ _ az a8 => qym (k_intMul a8 (ah.ext (an.t (aq.t (aw.t (aA.t az))))) (nat_int (au.ext (aw.t (aA.t az)))) xq xq) ?_
  rintro _ u36 aL ⟨i34, rfl, a0⟩
  refine zzg 38 203 _ fun _ _ aB a6 => qym (k_natural (x := ad.d) a6) ?_
  rintro _ u40 aE rfl
  refine zzg 39 202 _ fun _ _ aF aZ => qym (k_intMul aZ (al.ext (aw.t (aA.t (az.t (aL.t (aB.t (aE.t aF))))))) (nat_int (ar.ext (an.t (aq.t (aw.t (aA.t (az.t (aL.t (aB.t (aE.t aF)))))))))) xq xq) ?_
  rintro _ u46 a3 ⟨i44, rfl, aX⟩
  refine zzg 40 245 _ fun _ _ aO aQ => qym (k_intCompare aQ (a0.ext (aB.t (aE.t (aF.t (a3.t aO))))).raw (aX.ext aO).raw) ?_
  rintro _ u50 g51 rfl
  refine zza 4 (zI (Nt.cmpS (af * (ap : Int)) (ag * (ao : Int)))) (zzc 41 [(4, zI (Nt.cmpS (af * (ap : Int)) (ag * (ao : Int))))] [] (zzn (ret0 [.int .i64 (Nt.cmpS (af * (ap : Int)) (ag * (ao : Int)))] ⟨zzp, trivial⟩ fun u53 e54 => ?_)))
  show _ = _
  rw [aj, ak, ← Nt.cmp_mk am ai]
  rfl
 refine zyn 13 (x := zB ab) (zB false) (by rw [hs21]) (zzm 14 (uw 2 true false 13) (zzm 15 (uw 2 true false 13) (zza 16 (zB false) (zzb (zyp xj (zzr (zzo ?_)))))))
 refine zzd (zzy [0, 1, 3, 0, 8, 24, 56, 127, 0, 256, 768, 0, 2048, 6144, 14591, 32767, 65535, 131071] [(0, []), (1, []), (2, []), (3, []), (4, []), (5, []), (8, []), (9, []), (10, []), (11, []), (12, []), (13, []), (6, []), (7, []), (14, []), (15, []), (16, []), (17, [])] xj xj (zza 24 (.adr 5 0) (zza 25 (.adr 5 0) (zzh 26 (.v (.agg #[.bool ad.s, ad.m.v])) ty30 zze (zza 27 (.adr 6 0) (zza 28 (.adr 6 2) (zzh 29 (.v (ae.d.v)) ty28 zzk (zza 32 (.adr 6 0) (zza 33 (.adr 6 0) (zzh 34 (.v (.agg #[.bool ae.s, ae.m.v])) ty30 zze (zza 35 (.adr 5 0) ?_)))))))))))
 refine zza 36 (.adr 5 2) (zzh 37 (.v (ad.d.v)) ty28 zzk (zzg 30 203 _ fun _ _ av aP => qym (k_natural (x := ae.d) aP) ?_))
 rintro _ u56 ay rfl
 refine zzg 31 202 _ fun _ _ ax aR => qym (k_intMul aR (ah.ext (an.t (aq.t (av.t (ay.t ax))))) (nat_int (au.ext (av.t (ay.t ax)))) xq xq) ?_
 rintro _ u62 aK ⟨i60, rfl, aW⟩
 refine zzg 38 203 _ fun _ _ aG a9 => qym (k_natural (x := ad.d) a9) ?_
 rintro _ u66 aC rfl
 refine zzg 39 202 _ fun _ _ aD aY => qym (k_intMul aY (al.ext (av.t (ay.t (ax.t (aK.t (aG.t (aC.t aD))))))) (nat_int (ar.ext (an.t (aq.t (av.t (ay.t (ax.t (aK.t (aG.t (aC.t aD)))))))))) xq xq) ?_
 rintro _ u72 a1 ⟨i70, rfl, aT⟩
 refine zzg 40 245 _ fun _ _ aJ ba => qym (k_intCompare ba (aW.ext (aG.t (aC.t (aD.t (a1.t aJ))))).raw (aT.ext aJ).raw) ?_
 rintro _ u76 g77 rfl
 refine zza 4 (zI (Nt.cmpS (af * (ap : Int)) (ag * (ao : Int)))) (zzc 41 [(4, zI (Nt.cmpS (af * (ap : Int)) (ag * (ao : Int))))] [] (zzn (ret0 [.int .i64 (Nt.cmpS (af * (ap : Int)) (ag * (ao : Int)))] ⟨zzp, trivial⟩ fun u79 e80 => ?_)))
 show _ = _
 rw [aj, ak, ← Nt.cmp_mk am ai]
 rfl
theorem k_ratNeg {u w : World} {r1 : RL} {x : Rat} {K : Nat} (d : Dat u w) (hr1 : RatV u r1 x K) (hK : K ≤ 200000000) : qyc 250 #[r1.v] w (Post u w fun v u' => ∃ r : RL, v = r.v ∧ RatN u' r (-x) K) := by
 refine zzl (args := [r1.v]) Tryz.func250 rfl Tryz.ntmps250 (rs := [.cell 2 32]) Tryz.results250 (le_b rfl) (le_b rfl) d ?_
 refine sq9 (zzj 1 ⟨32, r1.cs⟩ (zzj 2 ⟨32, zw3⟩ (zzb (sq9 (zzh 3 (.v (r1.v)) ty32 zze (zzg 4 209 _ fun _ _ ah ac => qym (k_flip (r := r1) ac) ?_))))))
 rintro _ u12 ag rfl
 refine zzg 5 156 _ fun _ _ ab af => qym (k_ratTrim af ((flip_rat (hr1.ext (ah.t ag.ext))).ext ab) xq) ?_
 rintro _ u18 g19 ⟨aa, rfl, ae⟩
 refine zzi ⟨32, aa.cs⟩ ty32 ?_
 refine zzb (zzn (ret0 [aa.v] ⟨zzq ty32 zze, trivial⟩ fun u21 ad => ?_))
 refine ⟨aa, rfl, RatN.more (K := K) ?_ xq⟩
 exact (ae.ext ad)
theorem k_ratAdd {u w : World} {r1 : RL} {x : Rat} {K : Nat} {r2 : RL} {y : Rat} {L : Nat} (d : Dat u w) (hr1 : RatV u r1 x K) (hr2 : RatV u r2 y L) (hK : K ≤ 200000000) (hL : L ≤ 200000000) : qyc 95 #[r1.v, r2.v] w (Post u w fun v u' => ∃ r : RL, v = r.v ∧ RatN u' r (x + y) (K + L + 1)) := by
 refine zzl (args := [r1.v, r2.v]) Tryz.func95 rfl Tryz.ntmps95 (rs := [.cell 4 32]) Tryz.results95 (le_b rfl) (le_b rfl) d ?_
 refine sq9 (zzj 2 ⟨32, r1.cs⟩ (zzj 3 ⟨32, r2.cs⟩ (zzj 4 ⟨32, zw3⟩ (zzb (zzd (zzy [0, 1, 0, 7, 0, 0, 63, 127] [(0, []), (2, []), (4, []), (5, []), (1, []), (3, []), (6, []), (7, [])] xj xj (zzh 8 (.v (r1.v)) ty32 zze (zzh 10 (.v (r2.v)) ty32 zze (zzj 5 ⟨223, [.bool false, qyn, qyn, .bool false]⟩ (zzj 6 ⟨223, [.bool false, qyn, qyn, .bool false]⟩ (zzg 9 200 _ fun _ _ bA b5 => qym (k_read b5 (hr1.ext bA)) ?_)))))))))))
 rintro _ u13 bU ⟨aa, af, rfl, z12, aO, an, ad, ae, ap, bt, bN⟩
 refine zzg 11 200 _ fun _ _ ag ca => qym (k_read ca (hr2.ext (bA.t (bU.t ag)))) ?_
 rintro _ u18 ah ⟨ab, ac, rfl, z17, D17, ay, al, az, aw, bs, cb⟩
 refine zzi ⟨223, aa.cs ++ [.bool af]⟩ ty223 ?_
 refine zzi ⟨223, ab.cs ++ [.bool ac]⟩ ty223 ?_
 refine zzb (zzd (sq9 (zza 12 (.adr 5 3) (zzh 13 (zB af) ty4 zzk ?_))))
 rcases Bool.eq_false_or_eq_true af with hs21 | hs21
 ·refine zyn 14 (x := zB af) (zB true) (by rw [hs21]) (zza 15 (.adr 6 3) ?_ (hw := w1 2 true 14))
  refine zzh 16 (zB ac) ty4 zzk ?_ (hw := w1 2 true 14)
  refine zza 17 (zB ac) (zzb (zzt (b := ac) xj (fun aq => ?_) (fun aq => ?_)))
  ·replace aq : ac = true := aq
   refine sq9 (zza 18 (.adr 5 0) (zza 19 (.adr 5 0) (zzh 20 (.v (.agg #[.bool aa.s, aa.m.v])) ty30 zze (zza 21 (.adr 6 0) (zza 22 (.adr 6 0) (zzh 23 (.v (.agg #[.bool ab.s, ab.m.v])) ty30 zze (zzg 24 206 _ fun _ _ bx b7 => qym (k_intAdd b7 (an.ext (ag.t (ah.t bx))) (ay.ext bx) xq xq) ?_)))))))
   rintro _ u26 g27 ⟨aL, rfl, bK⟩
   refine zzg 25 157 _ fun _ _ bD bT => qym (k_whole (i := aL) bT) ?_
   rintro _ u32 bZ ⟨bk, rfl, ck⟩
   refine zzi ⟨32, aL.cs ++ [bk.v]⟩ ty32 ?_
   refine zzb (zzn (zzv (ret0 [.agg #[.bool aL.s, aL.m.v, bk.v]] ⟨zzq ty32 zze, trivial⟩ fun u35 bV => ?_)))
   refine ⟨(⟨aL.s, aL.m, bk⟩ : RL), rfl, RatN.more (K := (max (max K L + 1) 1)) ?_ xq⟩
   rw [ap, aw, bt (by assumption), bs (by assumption), Nt.mk_one, Nt.mk_one, ← Rat.intCast_add]
   exact ((whole_rat (bK.ext (bD.t bZ.ext)) ck).ext bV)
  replace aq : ac = false := aq
  refine zzr (zzo ?_)
  refine zzd (sq9 (zza 26 (.adr 5 0) (zza 27 (.adr 5 2) (zzh 28 (.v (aa.d.v)) ty28 zzk (zza 29 (.adr 6 0) (zza 30 (.adr 6 2) (zzh 31 (.v (ab.d.v)) ty28 zzk (zzg 32 207 _ fun _ _ ax cm => qym (k_natCompare cm (ad.ext (ag.t (ah.t ax))) (al.ext ax)) ?_))))))))
  rintro _ u38 aB rfl
  refine zza 33 (zB ((Nt.cmpS aO D17) == 0)) (zzb (zzt (b := (Nt.cmpS aO D17) == 0) xj (fun aS => ?_) (fun aS => ?_)))
  ·refine zzd (zzy [0, 1, 3, 0, 8, 24, 63, 0, 128, 384, 1023, 2047, 4095] [(0, []), (1, []), (2, []), (3, []), (4, []), (5, []), (7, []), (8, []), (9, []), (6, []), (10, []), (11, []), (12, [])] xj xj (zza 34 (.adr 5 0) (zza 35 (.adr 5 0) (zzh 36 (.v (.agg #[.bool aa.s, aa.m.v])) ty30 zze (zza 37 (.adr 6 0) (zza 38 (.adr 6 0) (zzh 39 (.v (.agg #[.bool ab.s, ab.m.v])) ty30 zze (zza 41 (.adr 5 0) (zza 42 (.adr 5 2) (zzh 43 (.v (aa.d.v)) ty28 zzk (zzg 40 206 _ fun _ _ a6 cp => qym (k_intAdd cp (an.ext (ag.t (ah.t (ax.t (aB.t a6))))) (ay.ext (ax.t (aB.t a6))) xq xq) ?_)))))))))))
   rintro _ u45 b8 ⟨bw, rfl, bX⟩
   refine zza 44 (.v (.agg #[.bool bw.s, bw.m.v, aa.d.v])) (zzg 45 205 _ fun _ _ bz b4 => qym (k_lowest b4 (bX.ext bz).raw (ad.ext (ag.t (ah.t (ax.t (aB.t (a6.t (b8.t bz))))))) ae xq xq) ?_)
   rintro _ u51 g52 ⟨aZ, rfl, bE⟩
   refine zzi ⟨32, aZ.cs⟩ ty32 ?_
   refine zzc 73 [(4, .adr 4 0)] [(4, ⟨32, aZ.cs⟩)] (zzn (zzv (ret0 [aZ.v] ⟨zzq ty32 zze, trivial⟩ fun u54 bB => ?_)))
   refine ⟨aZ, rfl, RatN.more (K := (max (max K L + 1) K)) ?_ xq⟩
   have hD : aO = D17 := Nt.cmp_natE aS
   rw [ap, aw, ← hD, ← Nt.add_same ae]
   exact (bE.ext bB)
  refine zzr (zzo ?_)
  refine zzd (zzy [0, 1, 3, 0, 8, 24, 56, 127, 0, 256, 768, 0, 2048, 6144, 14591, 32767, 65535, 0, 262143] [(0, []), (1, []), (2, []), (3, []), (4, []), (5, []), (8, []), (9, []), (10, []), (11, []), (12, []), (13, []), (17, []), (6, []), (7, []), (14, []), (15, []), (16, []), (18, [])] xj xj (zza 46 (.adr 5 0) (zza 47 (.adr 5 0) (zzh 48 (.v (.agg #[.bool aa.s, aa.m.v])) ty30 zze (zza 49 (.adr 6 0) (zza 50 (.adr 6 2) (zzh 51 (.v (ab.d.v)) ty28 zzk (zza 54 (.adr 6 0) (zza 55 (.adr 6 0) (zzh 56 (.v (.agg #[.bool ab.s, ab.m.v])) ty30 zze (zza 57 (.adr 5 0) ?_)))))))))))
  refine zza 58 (.adr 5 2) (zzh 59 (.v (aa.d.v)) ty28 zzk (zzj 7 ⟨30, [.bool false, qyn]⟩ (zzg 52 203 _ fun _ _ aM bP => qym (k_natural (x := ab.d) bP) ?_)))
  rintro _ u57 aN rfl
  refine zzg 53 202 _ fun _ _ aK bF => qym (k_intMul bF (an.ext (ag.t (ah.t (ax.t (aB.t (aM.t (aN.t aK))))))) (nat_int (al.ext (ax.t (aB.t (aM.t (aN.t aK)))))) xq xq) ?_
  rintro _ u63 aY ⟨i61, rfl, ch⟩
  refine zzg 60 203 _ fun _ _ aT bL => qym (k_natural (x := aa.d) bL) ?_
  rintro _ u67 aU rfl
  refine zzg 61 202 _ fun _ _ aW cd => qym (k_intMul cd (ay.ext (ax.t (aB.t (aM.t (aN.t (aK.t (aY.t (aT.t (aU.t aW))))))))) (nat_int (ad.ext (ag.t (ah.t (ax.t (aB.t (aM.t (aN.t (aK.t (aY.t (aT.t (aU.t aW)))))))))))) xq xq) ?_
  rintro _ u73 a3 ⟨i71, rfl, bM⟩
  refine zzg 62 206 _ fun _ _ a0 cj => qym (k_intAdd cj (ch.ext (aT.t (aU.t (aW.t (a3.t a0))))).raw (bM.ext a0).raw xq xq) ?_
  rintro _ u79 bv ⟨aQ, rfl, bC⟩
  refine zzi ⟨30, aQ.cs⟩ ty30 ?_
  refine zzc 73 [(4, .adr 4 0), (5, .adr 5 0), (6, .adr 6 0), (7, .adr 7 0)] [(4, ⟨32, zw3⟩), (5, ⟨223, aa.cs ++ [.bool af]⟩), (6, ⟨223, ab.cs ++ [.bool ac]⟩), (7, ⟨30, aQ.cs⟩)] (zzd (zzy [0, 0, 2, 6, 0, 16, 48, 126, 255, 511, 1023] [(0, []), (1, []), (2, []), (3, []), (4, []), (5, []), (6, []), (7, []), (8, []), (9, []), (10, [])] xj xj (zzh 63 (.v (aQ.v)) ty30 zze (zza 64 (.adr 5 0) (zza 65 (.adr 5 2) (zzh 66 (.v (aa.d.v)) ty28 zzk (zza 67 (.adr 6 0) (zza 68 (.adr 6 2) (zzh 69 (.v (ab.d.v)) ty28 zzk (zzg 70 208 _ fun _ _ bl cl => qym (k_natMul cl (ad.ext (ag.t (ah.t (ax.t (aB.t (aM.t (aN.t (aK.t (aY.t (aT.t (aU.t (aW.t (a3.t (a0.t (bv.t bl))))))))))))))) (al.ext (ax.t (aB.t (aM.t (aN.t (aK.t (aY.t (aT.t (aU.t (aW.t (a3.t (a0.t (bv.t bl))))))))))))) xq xq) ?_))))))))))
  rintro _ u85 bS ⟨bY, rfl, bJ⟩
  refine zza 71 (.v (.agg #[.bool aQ.s, aQ.m.v, bY.v])) (zzg 72 205 _ fun _ _ bu bQ => qym (k_lowest bQ (bC.ext (bl.t (bS.t bu))).raw (bJ.ext bu).raw (Nat.mul_pos ae az) xq xq) ?_)
  rintro _ u91 g92 ⟨bq, rfl, b3⟩
  refine zzi ⟨32, bq.cs⟩ ty32 ?_
  refine zzb (zzn (ret0 [bq.v] ⟨zzq ty32 zze, trivial⟩ fun u94 ci => ?_))
  refine ⟨bq, rfl, RatN.more (K := (max (max (K + L) (L + K) + 1) (K + L))) ?_ xq⟩
  rw [ap, aw, ← Nt.add_mk ae az]
  exact (b3.ext ci)
 refine zyn 14 (x := zB af) (zB false) (by rw [hs21]) (zzm 15 (uw 2 true false 14) (zzm 16 (uw 2 true false 14) (zza 17 (zB false) (zzb (zyp xj (zzr (zzo ?_)))))))
 refine zzd (sq9 (zza 26 (.adr 5 0) (zza 27 (.adr 5 2) (zzh 28 (.v (aa.d.v)) ty28 zzk (zza 29 (.adr 6 0) (zza 30 (.adr 6 2) (zzh 31 (.v (ab.d.v)) ty28 zzk (zzg 32 207 _ fun _ _ ar bR => qym (k_natCompare bR (ad.ext (ag.t (ah.t ar))) (al.ext ar)) ?_))))))))
 rintro _ u97 aA rfl
 refine zza 33 (zB ((Nt.cmpS aO D17) == 0)) (zzb (zzt (b := (Nt.cmpS aO D17) == 0) xj (fun aF => ?_) (fun aF => ?_)))
 ·refine zzd (zzy [0, 1, 3, 0, 8, 24, 63, 0, 128, 384, 1023, 2047, 4095] [(0, []), (1, []), (2, []), (3, []), (4, []), (5, []), (7, []), (8, []), (9, []), (6, []), (10, []), (11, []), (12, [])] xj xj (zza 34 (.adr 5 0) (zza 35 (.adr 5 0) (zzh 36 (.v (.agg #[.bool aa.s, aa.m.v])) ty30 zze (zza 37 (.adr 6 0) (zza 38 (.adr 6 0) (zzh 39 (.v (.agg #[.bool ab.s, ab.m.v])) ty30 zze (zza 41 (.adr 5 0) (zza 42 (.adr 5 2) (zzh 43 (.v (aa.d.v)) ty28 zzk (zzg 40 206 _ fun _ _ aH ba => qym (k_intAdd ba (an.ext (ag.t (ah.t (ar.t (aA.t aH))))) (ay.ext (ar.t (aA.t aH))) xq xq) ?_)))))))))))
  rintro _ cc a9 ⟨aR, rfl, bp⟩
  refine zza 44 (.v (.agg #[.bool aR.s, aR.m.v, aa.d.v])) (zzg 45 205 _ fun _ _ aP br => qym (k_lowest br (bp.ext aP).raw (ad.ext (ag.t (ah.t (ar.t (aA.t (aH.t (a9.t aP))))))) ae xq xq) ?_)
  rintro _ cf b0 ⟨aC, rfl, a1⟩
  refine zzi ⟨32, aC.cs⟩ ty32 ?_
  refine zzc 73 [(4, .adr 4 0)] [(4, ⟨32, aC.cs⟩)] (zzn (zzv (ret0 [aC.v] ⟨zzq ty32 zze, trivial⟩ fun bG bo => ?_)))
  refine ⟨aC, rfl, RatN.more (K := (max (max K L + 1) K)) ?_ xq⟩
  have hD : aO = D17 := Nt.cmp_natE aF
  rw [ap, aw, ← hD, ← Nt.add_same ae]
  exact (a1.ext bo)
 refine zzr (zzo ?_)
 refine zzd (zzy [0, 1, 3, 0, 8, 24, 56, 127, 0, 256, 768, 0, 2048, 6144, 14591, 32767, 65535, 0, 262143] [(0, []), (1, []), (2, []), (3, []), (4, []), (5, []), (8, []), (9, []), (10, []), (11, []), (12, []), (13, []), (17, []), (6, []), (7, []), (14, []), (15, []), (16, []), (18, [])] xj xj (zza 46 (.adr 5 0) (zza 47 (.adr 5 0) (zzh 48 (.v (.agg #[.bool aa.s, aa.m.v])) ty30 zze (zza 49 (.adr 6 0) (zza 50 (.adr 6 2) (zzh 51 (.v (ab.d.v)) ty28 zzk (zza 54 (.adr 6 0) (zza 55 (.adr 6 0) (zzh 56 (.v (.agg #[.bool ab.s, ab.m.v])) ty30 zze (zza 57 (.adr 5 0) ?_)))))))))))
 refine zza 58 (.adr 5 2) (zzh 59 (.v (aa.d.v)) ty28 zzk (zzj 7 ⟨30, [.bool false, qyn]⟩ (zzg 52 203 _ fun _ _ aj be => qym (k_natural (x := ab.d) be) ?_)))
 rintro _ b2 ak rfl
 refine zzg 53 202 _ fun _ _ ai a4 => qym (k_intMul a4 (an.ext (ag.t (ah.t (ar.t (aA.t (aj.t (ak.t ai))))))) (nat_int (al.ext (ar.t (aA.t (aj.t (ak.t ai)))))) xq xq) ?_
 rintro _ ce aD ⟨b6, rfl, bj⟩
 refine zzg 60 203 _ fun _ _ ao bn => qym (k_natural (x := aa.d) bn) ?_
 rintro _ bI am rfl
 refine zzg 61 202 _ fun _ _ av bf => qym (k_intMul bf (ay.ext (ar.t (aA.t (aj.t (ak.t (ai.t (aD.t (ao.t (am.t av))))))))) (nat_int (ad.ext (ag.t (ah.t (ar.t (aA.t (aj.t (ak.t (ai.t (aD.t (ao.t (am.t av)))))))))))) xq xq) ?_
 rintro _ cq aJ ⟨bW, rfl, bc⟩
 refine zzg 62 206 _ fun _ _ aE a2 => qym (k_intAdd a2 (bj.ext (ao.t (am.t (av.t (aJ.t aE))))).raw (bc.ext aE).raw xq xq) ?_
 rintro _ b1 aV ⟨au, rfl, a8⟩
 refine zzi ⟨30, au.cs⟩ ty30 ?_
 refine zzc 73 [(4, .adr 4 0), (5, .adr 5 0), (6, .adr 6 0), (7, .adr 7 0)] [(4, ⟨32, zw3⟩), (5, ⟨223, aa.cs ++ [.bool af]⟩), (6, ⟨223, ab.cs ++ [.bool ac]⟩), (7, ⟨30, au.cs⟩)] (zzd (zzy [0, 0, 2, 6, 0, 16, 48, 126, 255, 511, 1023] [(0, []), (1, []), (2, []), (3, []), (4, []), (5, []), (6, []), (7, []), (8, []), (9, []), (10, [])] xj xj (zzh 63 (.v (au.v)) ty30 zze (zza 64 (.adr 5 0) (zza 65 (.adr 5 2) (zzh 66 (.v (aa.d.v)) ty28 zzk (zza 67 (.adr 6 0) (zza 68 (.adr 6 2) (zzh 69 (.v (ab.d.v)) ty28 zzk (zzg 70 208 _ fun _ _ aI bb => qym (k_natMul bb (ad.ext (ag.t (ah.t (ar.t (aA.t (aj.t (ak.t (ai.t (aD.t (ao.t (am.t (av.t (aJ.t (aE.t (aV.t aI))))))))))))))) (al.ext (ar.t (aA.t (aj.t (ak.t (ai.t (aD.t (ao.t (am.t (av.t (aJ.t (aE.t (aV.t aI))))))))))))) xq xq) ?_))))))))))
 rintro _ b9 a7 ⟨bi, rfl, bh⟩
 refine zza 71 (.v (.agg #[.bool au.s, au.m.v, bi.v])) (zzg 72 205 _ fun _ _ aX a5 => qym (k_lowest a5 (a8.ext (aI.t (a7.t aX))).raw (bh.ext aX).raw (Nat.mul_pos ae az) xq xq) ?_)
 rintro _ bH cg ⟨aG, rfl, bm⟩
 refine zzi ⟨32, aG.cs⟩ ty32 ?_
 refine zzb (zzn (ret0 [aG.v] ⟨zzq ty32 zze, trivial⟩ fun bO bg => ?_))
 refine ⟨aG, rfl, RatN.more (K := (max (max (K + L) (L + K) + 1) (K + L))) ?_ xq⟩
 rw [ap, aw, ← Nt.add_mk ae az]
 exact (bm.ext bg)
theorem k_ratMul {u w : World} {r1 : RL} {x : Rat} {K : Nat} {r2 : RL} {y : Rat} {L : Nat} (d : Dat u w) (hr1 : RatV u r1 x K) (hr2 : RatV u r2 y L) (hK : K ≤ 200000000) (hL : L ≤ 200000000) : qyc 98 #[r1.v, r2.v] w (Post u w fun v u' => ∃ r : RL, v = r.v ∧ RatN u' r (x * y) (K + L)) := by
 refine zzl (args := [r1.v, r2.v]) Tryz.func98 rfl Tryz.ntmps98 (rs := [.cell 4 32]) Tryz.results98 (le_b rfl) (le_b rfl) d ?_
 refine sq9 (zzj 2 ⟨32, r1.cs⟩ (zzj 3 ⟨32, r2.cs⟩ (zzj 4 ⟨32, zw3⟩ (zzb (zzd (zzy [0, 1, 0, 7, 0, 0, 63, 127] [(0, []), (2, []), (4, []), (5, []), (1, []), (3, []), (6, []), (7, [])] xj xj (zzh 8 (.v (r1.v)) ty32 zze (zzh 10 (.v (r2.v)) ty32 zze (zzj 5 ⟨223, [.bool false, qyn, qyn, .bool false]⟩ (zzj 6 ⟨223, [.bool false, qyn, qyn, .bool false]⟩ (zzg 9 200 _ fun _ _ aC aO => qym (k_read aO (hr1.ext aC)) ?_)))))))))))
 rintro _ u13 aF ⟨ak, ac, rfl, z12, D12, aw, ai, aj, ae, aB, aR⟩
 refine zzg 11 200 _ fun _ _ aq aZ => qym (k_read aZ (hr2.ext (aC.t (aF.t aq)))) ?_
 rintro _ u18 ar ⟨al, ab, rfl, z17, D17, ax, ah, am, af, aA, aQ⟩
 refine zzi ⟨223, ak.cs ++ [.bool ac]⟩ ty223 ?_
 refine zzi ⟨223, al.cs ++ [.bool ab]⟩ ty223 ?_
 refine zzb (sq9 (zza 12 (.adr 5 0) (zza 13 (.adr 5 0) (zzh 14 (.v (.agg #[.bool ak.s, ak.m.v])) ty30 zze (zza 15 (.adr 6 0) (zza 16 (.adr 6 0) (zzh 17 (.v (.agg #[.bool al.s, al.m.v])) ty30 zze (zzg 18 202 _ fun _ _ ag aL => qym (k_intMul aL (aw.ext (aq.t (ar.t ag))) (ax.ext ag) xq xq) ?_))))))))
 rintro _ u24 ao ⟨aa, rfl, az⟩
 refine zzj 7 ⟨30, [.bool false, qyn]⟩ (zzi ⟨30, aa.cs⟩ ty30 ?_)
 refine zzb (zzd (sq9 (zza 19 (.adr 5 3) (zzh 20 (zB ac) ty4 zzk ?_))))
 rcases Bool.eq_false_or_eq_true ac with hs27 | hs27
 ·refine zyn 21 (x := zB ac) (zB true) (by rw [hs27]) (zza 22 (.adr 6 3) ?_ (hw := w1 2 true 21))
  refine zzh 23 (zB ab) ty4 zzk ?_ (hw := w1 2 true 21)
  refine zza 24 (zB ab) (zzb (zzt (b := ab) xj (fun ad => ?_) (fun ad => ?_)))
  ·replace ad : ab = true := ad
   refine sq9 (zzh 25 (.v (aa.v)) ty30 zze (zzg 26 157 _ fun _ _ aK a0 => qym (k_whole (i := aa) a0) ?_))
   rintro _ u32 aS ⟨au, rfl, aT⟩
   refine zzi ⟨32, aa.cs ++ [au.v]⟩ ty32 ?_
   refine zzb (zzn (zzv (ret0 [.agg #[.bool aa.s, aa.m.v, au.v]] ⟨zzq ty32 zze, trivial⟩ fun u35 aJ => ?_)))
   refine ⟨(⟨aa.s, aa.m, au⟩ : RL), rfl, RatN.more (K := (max (K + L) 1)) ?_ xq⟩
   rw [ae, af, aB (by assumption), aA (by assumption), Nt.mk_one, Nt.mk_one, ← Rat.intCast_mul]
   exact ((whole_rat (az.ext (aK.t aS.ext)) aT).ext aJ)
  replace ad : ab = false := ad
  refine zzr (zzo ?_)
  refine zzd (zzy [0, 0, 2, 6, 0, 16, 48, 126, 255, 511, 1023] [(0, []), (1, []), (2, []), (3, []), (4, []), (5, []), (6, []), (7, []), (8, []), (9, []), (10, [])] xj xj (zzh 27 (.v (aa.v)) ty30 zze (zza 28 (.adr 5 0) (zza 29 (.adr 5 2) (zzh 30 (.v (ak.d.v)) ty28 zzk (zza 31 (.adr 6 0) (zza 32 (.adr 6 2) (zzh 33 (.v (al.d.v)) ty28 zzk (zzg 34 208 _ fun _ _ av a1 => qym (k_natMul a1 (ai.ext (aq.t (ar.t (ag.t (ao.t av))))) (ah.ext (ag.t (ao.t av))) xq xq) ?_)))))))))
  rintro _ u40 a2 ⟨aH, rfl, aI⟩
  refine zza 35 (.v (.agg #[.bool aa.s, aa.m.v, aH.v])) (zzg 36 205 _ fun _ _ aD a3 => qym (k_lowest a3 (az.ext (av.t (a2.t aD))).raw (aI.ext aD).raw (Nat.mul_pos aj am) xq xq) ?_)
  rintro _ u46 g47 ⟨ap, rfl, aU⟩
  refine zzi ⟨32, ap.cs⟩ ty32 ?_
  refine zzc 37 [(4, .adr 4 0)] [(4, ⟨32, ap.cs⟩)] (zzn (ret0 [ap.v] ⟨zzq ty32 zze, trivial⟩ fun u49 aP => ?_))
  refine ⟨ap, rfl, RatN.more (K := (max (K + L) (K + L))) ?_ xq⟩
  rw [ae, af, ← Nt.mul_mk]
  exact (aU.ext aP)
 refine zyn 21 (x := zB ac) (zB false) (by rw [hs27]) (zzm 22 (uw 2 true false 21) (zzm 23 (uw 2 true false 21) (zza 24 (zB false) (zzb (zyp xj (zzr (zzo ?_)))))))
 refine zzd (zzy [0, 0, 2, 6, 0, 16, 48, 126, 255, 511, 1023] [(0, []), (1, []), (2, []), (3, []), (4, []), (5, []), (6, []), (7, []), (8, []), (9, []), (10, [])] xj xj (zzh 27 (.v (aa.v)) ty30 zze (zza 28 (.adr 5 0) (zza 29 (.adr 5 2) (zzh 30 (.v (ak.d.v)) ty28 zzk (zza 31 (.adr 6 0) (zza 32 (.adr 6 2) (zzh 33 (.v (al.d.v)) ty28 zzk (zzg 34 208 _ fun _ _ ay aG => qym (k_natMul aG (ai.ext (aq.t (ar.t (ag.t (ao.t ay))))) (ah.ext (ag.t (ao.t ay))) xq xq) ?_)))))))))
 rintro _ u54 aY ⟨aX, rfl, aN⟩
 refine zza 35 (.v (.agg #[.bool aa.s, aa.m.v, aX.v])) (zzg 36 205 _ fun _ _ aE aV => qym (k_lowest aV (az.ext (ay.t (aY.t aE))).raw (aN.ext aE).raw (Nat.mul_pos aj am) xq xq) ?_)
 rintro _ u60 g61 ⟨an, rfl, aM⟩
 refine zzi ⟨32, an.cs⟩ ty32 ?_
 refine zzc 37 [(4, .adr 4 0)] [(4, ⟨32, an.cs⟩)] (zzn (ret0 [an.v] ⟨zzq ty32 zze, trivial⟩ fun u63 aW => ?_))
 refine ⟨an, rfl, RatN.more (K := (max (K + L) (K + L))) ?_ xq⟩
 rw [ae, af, ← Nt.mul_mk]
 exact (aM.ext aW)
theorem k_ratFrac {u w : World} {a b : Int} (d : Dat u w) (ha0 : -9223372036854775808 ≤ a) (ha1 : a ≤ 9223372036854775807) (hb0 : -9223372036854775808 ≤ b) (hb1 : b ≤ 9223372036854775807) : qyc 130 #[.int .i64 a, .int .i64 b] w (Post u w fun v u' => ∃ r : RL, v = r.v ∧ RatN u' r ((a : Rat) / (b : Rat)) 2) := by
 refine zzl (args := [.int .i64 a, .int .i64 b]) Tryz.func130 rfl Tryz.ntmps130 (rs := [.cell 4 32]) Tryz.results130 (le_b rfl) (le_b rfl) d ?_
 refine sq9 (zzj 4 ⟨32, zw3⟩ (zzb (zzd (sq9 (zza 5 (zI b) (zza 6 (zB (b == 0)) (zzb (zzt (b := b == 0) xj (fun aa => ?_) (fun aa => ?_)))))))))
 ·refine sq9 (zzg 7 53 _ fun _ _ _ ai => qym (k_ratOf ai (z := 0) xq xq) ?_)
  rintro _ u15 g16 ⟨ac, rfl, al⟩
  refine zzi ⟨32, ac.cs⟩ ty32 ?_
  refine zzb (zzn (zzv (ret0 [ac.v] ⟨zzq ty32 zze, trivial⟩ fun u18 ak => ?_)))
  refine ⟨ac, rfl, RatN.more (K := 2) ?_ xq⟩
  have hb0 : b = 0 := by simpa using aa
  rw [hb0]; simp [Rat.div_def]; exact (al.ext ak)
 have hb0 : 0 < b.natAbs := by simp at aa; omega
 refine zzr (zzo ?_)
 refine sq9 (zza 8 (zI a) (zzg 9 158 _ fun _ _ _ av => qym (k_intOf av (z := a) xq xq) ?_))
 rintro _ u23 g24 ⟨ap, rfl, am⟩
 refine zza 10 (zI b) (zzg 11 158 _ fun _ _ ao au => qym (k_intOf au (z := b) xq xq) ?_)
 rintro _ u29 aj ⟨aq, rfl, ag⟩
 refine zzg 12 204 _ fun _ _ ab ah => qym (k_quotient (i := ap) (j := aq) ah) ?_
 rintro _ u33 ae rfl
 refine zzg 13 205 _ fun _ _ af aw => qym (k_lowest aw ((quot_int (am.ext (ao.t (aj.t (ab.t ae.ext)))) (ag.ext (ab.t ae.ext))).ext af) ((int_mag (ag.ext (ab.t ae.ext))).ext af).raw hb0 xq xq) ?_
 rintro _ u39 g40 ⟨ad, rfl, ar⟩
 refine zzi ⟨32, ad.cs⟩ ty32 ?_
 refine zzb (zzn (ret0 [ad.v] ⟨zzq ty32 zze, trivial⟩ fun u42 an => ?_))
 refine ⟨ad, rfl, RatN.more (K := (max 2 2)) ?_ xq⟩
 rw [← Nt.div_mk2 xq]
 exact (ar.ext an)
def DivR (x y : Rat) (K : Nat) (v : Value) (u : World) : Prop := (v = .tuple #[.agg #[.bool false, qyn, qyn], .int .i64 3] ∧ y = 0) ∨ (y ≠ 0 ∧ ∃ r : RL, v = .tuple #[r.v, .int .i64 0] ∧ RatN u r (x / y) K)
theorem k_ends {u w : World} {a1 a2 : RL} {x1 x2 : Rat} {K : Nat} (d : Dat u w) (ha1 : RatV u a1 x1 K) (ha2 : RatV u a2 x2 K) (hK : K ≤ 200000000) : qyc 155 #[IV a1 a2] w (Post u w fun v u' => ∃ p q : RL, v = .tuple #[p.v, q.v] ∧ RatV u' p (Nt.lo x1 x2) K ∧ RatV u' q (Nt.hi x1 x2) K) := by
 refine zzl (args := [.agg #[.bool a1.s, a1.m.v, a1.d.v, .bool a2.s, a2.m.v, a2.d.v]]) Tryz.func155 rfl Tryz.ntmps155 (rs := [.cell 2 32, .cell 3 32]) Tryz.results155 (le_b rfl) (le_b rfl) d ?_
 refine sq9 (zzj 1 ⟨34, a1.cs ++ a2.cs⟩ (zzj 2 ⟨32, zw3⟩ (zzj 3 ⟨32, zw3⟩ (zzb (zzd (sq9 (zza 4 (.adr 1 0) (zzh 5 (.v (a1.v)) ty32 zze (zza 6 (.adr 1 3) (zzh 7 (.v (a2.v)) ty32 zze (zzg 8 133 _ fun _ _ ab af => qym (k_ratCompare af (ha1.ext ab) (ha2.ext ab) xq xq) ?_)))))))))))
 rintro _ u12 ac rfl
 refine zza 9 (zB (decide ((0 : Int) < (Nt.cmpQ x1 x2)))) (zzb (zzt (b := decide ((0 : Int) < (Nt.cmpQ x1 x2))) xj (fun aa => ?_) (fun aa => ?_)))
 ·have qhb15 := qyt aa
  refine zzd (zzy [0, 1, 0, 4, 3, 31] [(0, []), (1, []), (2, []), (3, []), (4, [12]), (5, [])] xj xj (zza 10 (.adr 1 3) (zzh 11 (.v (a2.v)) ty32 zze (zza 12 (.adr 1 0) (zzh 13 (.v (a1.v)) ty32 zze (zzi ⟨32, a2.cs⟩ ty32 ?_))))))
  refine zzi ⟨32, a1.cs⟩ ty32 ?_
  refine zzb (zzn (zzv (ret0 [a2.v, a1.v] ⟨zzq ty32 zze, zzq ty32 zze, trivial⟩ fun u16 ae => ?_)))
  refine ⟨a2, a1, rfl, ?_, ?_⟩
  ·rw [(Nt.ends_gt aa).1]; exact (ha2.ext (ab.t (ac.t ae)))
  rw [(Nt.ends_gt aa).2]; exact (ha1.ext (ab.t (ac.t ae)))
 have qhb15 := qyf aa
 refine zzr (zzo ?_)
 refine zzd (zzy [0, 1, 0, 4, 3, 31] [(0, []), (1, []), (2, []), (3, []), (4, [16]), (5, [])] xj xj (zza 14 (.adr 1 0) (zzh 15 (.v (a1.v)) ty32 zze (zza 16 (.adr 1 3) (zzh 17 (.v (a2.v)) ty32 zze (zzi ⟨32, a1.cs⟩ ty32 ?_))))))
 refine zzi ⟨32, a2.cs⟩ ty32 ?_
 refine zzb (zzn (ret0 [a1.v, a2.v] ⟨zzq ty32 zze, zzq ty32 zze, trivial⟩ fun u18 ad => ?_))
 refine ⟨a1, a2, rfl, ?_, ?_⟩
 ·rw [(Nt.ends_le aa).1]; exact (ha1.ext (ab.t (ac.t ad)))
 rw [(Nt.ends_le aa).2]; exact (ha2.ext (ab.t (ac.t ad)))
theorem k_lesserN {u w : World} {a : RL} {x : Rat} {b : RL} {y : Rat} {K : Nat} (d : Dat u w) (ha : RatN u a x K) (hb : RatN u b y K) (hK : K ≤ 200000000) : qyc 270 #[a.v, b.v] w (Post u w fun v u' => ∃ p : RL, v = p.v ∧ RatN u' p (Nt.lo x y) K) := by
 refine zzl (args := [a.v, b.v]) Tryz.func270 rfl Tryz.ntmps270 (rs := [.cell 4 32]) Tryz.results270 (le_b rfl) (le_b rfl) d ?_
 refine sq9 (zzj 2 ⟨32, a.cs⟩ (zzj 3 ⟨32, b.cs⟩ (zzj 4 ⟨32, zw3⟩ (zzb (zzd (sq9 (zzh 5 (.v (b.v)) ty32 zze (zzh 6 (.v (a.v)) ty32 zze (zzg 7 133 _ fun _ _ ab ad => qym (k_ratCompare ad (hb.ext ab).raw (ha.ext ab).raw xq xq) ?_)))))))))
 rintro _ u12 ac rfl
 refine zza 8 (zB (decide ((Nt.cmpQ y x) < 0))) (zzb (zzt (b := decide ((Nt.cmpQ y x) < 0)) xj (fun aa => ?_) (fun aa => ?_)))
 ·have qhb15 := qyt aa
  refine sq9 (zzh 9 (.v (b.v)) ty32 zze (zzi ⟨32, b.cs⟩ ty32 ?_))
  refine zzb (zzn (zzv (ret0 [b.v] ⟨zzq ty32 zze, trivial⟩ fun u16 af => ?_)))
  refine ⟨b, rfl, ?_⟩
  rw [Nt.lesser_lt aa]
  exact (hb.ext (ab.t (ac.t af)))
 have qhb15 := qyf aa
 refine zzr (zzo ?_)
 refine sq9 (zzh 10 (.v (a.v)) ty32 zze (zzi ⟨32, a.cs⟩ ty32 ?_))
 refine zzb (zzn (ret0 [a.v] ⟨zzq ty32 zze, trivial⟩ fun u18 ae => ?_))
 refine ⟨a, rfl, ?_⟩
 rw [Nt.lesser_ge aa]
 exact (ha.ext (ab.t (ac.t ae)))
theorem k_greaterN {u w : World} {a : RL} {x : Rat} {b : RL} {y : Rat} {K : Nat} (d : Dat u w) (ha : RatN u a x K) (hb : RatN u b y K) (hK : K ≤ 200000000) : qyc 271 #[a.v, b.v] w (Post u w fun v u' => ∃ p : RL, v = p.v ∧ RatN u' p (Nt.hi x y) K) := by
 refine zzl (args := [a.v, b.v]) Tryz.func271 rfl Tryz.ntmps271 (rs := [.cell 4 32]) Tryz.results271 (le_b rfl) (le_b rfl) d ?_
 refine sq9 (zzj 2 ⟨32, a.cs⟩ (zzj 3 ⟨32, b.cs⟩ (zzj 4 ⟨32, zw3⟩ (zzb (zzd (sq9 (zzh 5 (.v (b.v)) ty32 zze (zzh 6 (.v (a.v)) ty32 zze (zzg 7 133 _ fun _ _ ab ad => qym (k_ratCompare ad (hb.ext ab).raw (ha.ext ab).raw xq xq) ?_)))))))))
 rintro _ u12 ac rfl
 refine zza 8 (zB (decide ((0 : Int) < (Nt.cmpQ y x)))) (zzb (zzt (b := decide ((0 : Int) < (Nt.cmpQ y x))) xj (fun aa => ?_) (fun aa => ?_)))
 ·have qhb15 := qyt aa
  refine sq9 (zzh 9 (.v (b.v)) ty32 zze (zzi ⟨32, b.cs⟩ ty32 ?_))
  refine zzb (zzn (zzv (ret0 [b.v] ⟨zzq ty32 zze, trivial⟩ fun u16 af => ?_)))
  refine ⟨b, rfl, ?_⟩
  rw [Nt.greater_gt aa]
  exact (hb.ext (ab.t (ac.t af)))
 have qhb15 := qyf aa
 refine zzr (zzo ?_)
 refine sq9 (zzh 10 (.v (a.v)) ty32 zze (zzi ⟨32, a.cs⟩ ty32 ?_))
 refine zzb (zzn (ret0 [a.v] ⟨zzq ty32 zze, trivial⟩ fun u18 ae => ?_))
 refine ⟨a, rfl, ?_⟩
 rw [Nt.greater_le aa]
 exact (ha.ext (ab.t (ac.t ae)))
theorem k_own {u w : World} {a : RL} {x : Rat} {K : Nat} (d : Dat u w) (ha : RatN u a x K) (hK : K ≤ 200000000) : qyc 272 #[a.v] w (Post u w fun v u' => ∃ p : RL, v = p.v ∧ RatN u' p x K) := by
 refine zzl (args := [a.v]) Tryz.func272 rfl Tryz.ntmps272 (rs := [.cell 2 32]) Tryz.results272 (le_b rfl) (le_b rfl) d ?_
 refine sq9 (zzj 1 ⟨32, a.cs⟩ (zzj 2 ⟨32, zw3⟩ (zzb (zzd (zzy [0, 1, 3, 0, 8, 24, 56, 127, 0, 256, 888, 2047, 4095] [(0, []), (1, []), (2, []), (3, []), (4, []), (5, []), (8, []), (9, []), (6, []), (7, []), (10, []), (11, []), (12, [])] xj xj (zza 3 (.adr 1 0) (zza 4 (.adr 1 0) (zzh 5 (zB a.s) ty4 zzk (zza 6 (.adr 1 0) (zza 7 (.adr 1 1) (zzh 8 (.v (a.m.v)) ty28 zzk ?_)))))))))))
 refine zza 11 (.adr 1 2) (zzh 12 (.v (a.d.v)) ty28 zzk (zzg 9 328 _ fun _ _ ad ah => qym (k_cloneN ah ((int_mag (RatN.num ha)).ext ad) xq) ?_))
 rintro _ u14 af ⟨aa, rfl, ai⟩
 refine zza 10 (.v (.agg #[.bool a.s, aa.v])) (zzg 13 328 _ fun _ _ ae aj => qym (k_cloneN aj ((RatN.den ha).ext (ad.t (af.t ae))) xq) ?_)
 rintro _ u20 ak ⟨ab, rfl, ag⟩
 refine zza 14 (.v (.agg #[.bool a.s, aa.v, ab.v])) (zzi ⟨32, [.bool a.s, aa.v, ab.v]⟩ ty32 ?_)
 refine zzb (zzn (ret0 [.agg #[.bool a.s, aa.v, ab.v]] ⟨zzq ty32 zze, trivial⟩ fun u23 ac => ?_))
 exact ⟨(⟨a.s, aa, ab⟩ : RL), rfl, own_rat (r := a) ha (ai.ext (ae.t (ak.t ac))) (ag.ext ac)⟩
theorem k_around {u w : World} {a1 a2 a3 a4 : RL} {x1 x2 x3 x4 : Rat} {K : Nat} (d : Dat u w) (ha1 : RatN u a1 x1 K) (ha2 : RatN u a2 x2 K) (ha3 : RatN u a3 x3 K) (ha4 : RatN u a4 x4 K) (hK : K ≤ 200000000) : qyc 161 #[.agg #[.bool a1.s, .slice a1.m.a a1.m.n a1.m.c, .slice a1.d.a a1.d.n a1.d.c, .bool a2.s, .slice a2.m.a a2.m.n a2.m.c, .slice a2.d.a a2.d.n a2.d.c, .bool a3.s, .slice a3.m.a a3.m.n a3.m.c, .slice a3.d.a a3.d.n a3.d.c, .bool a4.s, .slice a4.m.a a4.m.n a4.m.c, .slice a4.d.a a4.d.n a4.d.c]] w (Post u w fun v u' => ∃ p q : RL, v = IV p q ∧ RatN u' p (Nt.lo4 x1 x2 x3 x4) K ∧ RatN u' q (Nt.hi4 x1 x2 x3 x4) K) := by
 refine zzl (args := [.agg #[.bool a1.s, a1.m.v, a1.d.v, .bool a2.s, a2.m.v, a2.d.v, .bool a3.s, a3.m.v, a3.d.v, .bool a4.s, a4.m.v, a4.d.v]]) Tryz.func161 rfl Tryz.ntmps161 (rs := [.cell 2 34]) Tryz.results161 (le_b rfl) (le_b rfl) d ?_
 refine sq9 (zzj 1 ⟨193, a1.cs ++ a2.cs ++ a3.cs ++ a4.cs⟩ (zzj 2 ⟨34, zw6⟩ (zzb (zzd (zzy [0, 1, 0, 4, 0, 0, 51, 127] [(0, []), (1, []), (2, []), (3, []), (4, []), (5, []), (6, [9]), (7, [])] xj xj (zza 7 (.adr 1 0) (zzh 8 (.v (a1.v)) ty32 zze (zza 9 (.adr 1 0) (zzh 10 (.v (a1.v)) ty32 zze (zzj 3 ⟨32, zw3⟩ (zzj 4 ⟨32, zw3⟩ ?_)))))))))))
 refine zzi ⟨32, a1.cs⟩ ty32 ?_
 refine zzi ⟨32, a1.cs⟩ ty32 ?_
 refine zzb (zzd (sq9 (zza 11 (.slc 1 3 3 3) (zza 12 (zI 3) (zza 13 (zI 0) (zzb (zzs (sw_rounds 3 ?_))))))))
 refine sq9 (zza 14 (zB true) (zzb (zzd (zyo xj (zzr (zzo ?_))))))
 refine zzd (zzs (sq9 (zza 15 (.adr 1 3) (zzh 16 (.v (a2.v)) ty32 zze (zzj 6 ⟨32, zw3⟩ (zzi ⟨32, a2.cs⟩ ty32 ?_))))))
 refine zzb (zzy [0, 0, 3, 0, 0, 31, 63, 127] [(0, []), (1, []), (3, []), (4, []), (2, []), (5, []), (6, []), (7, [])] xj xj (zzh 17 (.v (a1.v)) ty32 zze (zzh 18 (.v (a2.v)) ty32 zze (zzh 20 (.v (a1.v)) ty32 zze (zzh 21 (.v (a2.v)) ty32 zze (zzg 19 270 _ fun _ _ ac aI => qym (k_lesserN aI (ha1.ext ac) (ha2.ext ac) xq) ?_))))))
 rintro _ u14 ae ⟨ar, rfl, aD⟩
 refine zzg 22 271 _ fun _ _ ad aJ => qym (k_greaterN aJ (ha1.ext (ac.t (ae.t ad))) (ha2.ext (ac.t (ae.t ad))) xq) ?_
 rintro _ u20 ah ⟨am, rfl, aN⟩
 refine zzi ⟨32, ar.cs⟩ ty32 ?_
 refine zzi ⟨32, am.cs⟩ ty32 ?_
 refine zzw ?_
 refine zzo (zzf (zza 23 (zI 1) (zza 13 (zI 1) (zzw ?_))))
 refine rn_next ?_
 refine sw_weak (T := St.of 29 [(2, .adr 2 0), (3, .adr 3 0), (4, .adr 4 0), (11, .slc 1 3 3 3), (12, zI 3), (13, zI 1)] [(1, ⟨193, a1.cs ++ a2.cs ++ a3.cs ++ a4.cs⟩), (2, ⟨34, zw6⟩), (3, ⟨32, ar.cs⟩), (4, ⟨32, am.cs⟩)]) yv ?_
 refine sq9 (zza 14 (zB true) (zzb (zzd (zyo xj (zzr (zzo ?_))))))
 refine zzd (zzs (sq9 (zza 15 (.adr 1 6) (zzh 16 (.v (a3.v)) ty32 zze (zzj 6 ⟨32, zw3⟩ (zzi ⟨32, a3.cs⟩ ty32 ?_))))))
 refine zzb (zzy [0, 0, 3, 0, 0, 31, 63, 127] [(0, []), (1, []), (3, []), (4, []), (2, []), (5, []), (6, []), (7, [])] xj xj (zzh 17 (.v (ar.v)) ty32 zze (zzh 18 (.v (a3.v)) ty32 zze (zzh 20 (.v (am.v)) ty32 zze (zzh 21 (.v (a3.v)) ty32 zze (zzg 19 270 _ fun _ _ af aL => qym (k_lesserN aL (aD.ext (ad.t (ah.t af))) (ha3.ext (ac.t (ae.t (ad.t (ah.t af))))) xq) ?_))))))
 rintro _ u26 ai ⟨ao, rfl, aH⟩
 refine zzg 22 271 _ fun _ _ ag aP => qym (k_greaterN aP (aN.ext (af.t (ai.t ag))) (ha3.ext (ac.t (ae.t (ad.t (ah.t (af.t (ai.t ag))))))) xq) ?_
 rintro _ u32 aq ⟨an, rfl, aK⟩
 refine zzi ⟨32, ao.cs⟩ ty32 ?_
 refine zzi ⟨32, an.cs⟩ ty32 ?_
 refine zzw ?_
 refine zzo (zzf (zza 23 (zI 2) (zza 13 (zI 2) (zzw ?_))))
 refine rn_next ?_
 refine sw_weak (T := St.of 29 [(2, .adr 2 0), (3, .adr 3 0), (4, .adr 4 0), (11, .slc 1 3 3 3), (12, zI 3), (13, zI 2)] [(1, ⟨193, a1.cs ++ a2.cs ++ a3.cs ++ a4.cs⟩), (2, ⟨34, zw6⟩), (3, ⟨32, ao.cs⟩), (4, ⟨32, an.cs⟩)]) yv ?_
 refine sq9 (zza 14 (zB true) (zzb (zzd (zyo xj (zzr (zzo ?_))))))
 refine zzd (zzs (sq9 (zza 15 (.adr 1 9) (zzh 16 (.v (a4.v)) ty32 zze (zzj 6 ⟨32, zw3⟩ (zzi ⟨32, a4.cs⟩ ty32 ?_))))))
 refine zzb (zzy [0, 0, 3, 0, 0, 31, 63, 127] [(0, []), (1, []), (3, []), (4, []), (2, []), (5, []), (6, []), (7, [])] xj xj (zzh 17 (.v (ao.v)) ty32 zze (zzh 18 (.v (a4.v)) ty32 zze (zzh 20 (.v (an.v)) ty32 zze (zzh 21 (.v (a4.v)) ty32 zze (zzg 19 270 _ fun _ _ aj aF => qym (k_lesserN aF (aH.ext (ag.t (aq.t aj))) (ha4.ext (ac.t (ae.t (ad.t (ah.t (af.t (ai.t (ag.t (aq.t aj))))))))) xq) ?_))))))
 rintro _ u38 av ⟨al, rfl, ay⟩
 refine zzg 22 271 _ fun _ _ ak aM => qym (k_greaterN aM (aK.ext (aj.t (av.t ak))) (ha4.ext (ac.t (ae.t (ad.t (ah.t (af.t (ai.t (ag.t (aq.t (aj.t (av.t ak))))))))))) xq) ?_
 rintro _ u44 aA ⟨ap, rfl, aE⟩
 refine zzi ⟨32, al.cs⟩ ty32 ?_
 refine zzi ⟨32, ap.cs⟩ ty32 ?_
 refine zzw ?_
 refine zzo (zzf (zza 23 (zI 3) (zza 13 (zI 3) (zzw ?_))))
 refine rn_next ?_
 refine sw_weak (T := St.of 29 [(2, .adr 2 0), (3, .adr 3 0), (4, .adr 4 0), (11, .slc 1 3 3 3), (12, zI 3), (13, zI 3)] [(1, ⟨193, a1.cs ++ a2.cs ++ a3.cs ++ a4.cs⟩), (2, ⟨34, zw6⟩), (3, ⟨32, al.cs⟩), (4, ⟨32, ap.cs⟩)]) yv ?_
 refine sq9 (zza 14 (zB false) (zzb (zzd (zyp xj (zyb (zzo (zzd (zzy [0, 1, 0, 7, 15, 31] [(0, []), (2, []), (1, []), (3, []), (4, []), (5, [])] xj xj (zzh 24 (.v (al.v)) ty32 zze (zzh 26 (.v (ap.v)) ty32 zze (zzg 25 272 _ fun _ _ ax aG => qym (k_own aG (ay.ext (ak.t (aA.t ax))) xq) ?_)))))))))))
 rintro _ u50 aB ⟨ab, rfl, aQ⟩
 refine zzg 27 272 _ fun _ _ aw aO => qym (k_own aO (aE.ext (ax.t (aB.t aw))) xq) ?_
 rintro _ u56 aC ⟨aa, rfl, az⟩
 refine zza 28 (.v (.agg #[.bool ab.s, ab.m.v, ab.d.v, .bool aa.s, aa.m.v, aa.d.v])) (zzi ⟨34, ab.cs ++ aa.cs⟩ ty34 ?_)
 refine zzc 29 [(2, .adr 2 0)] [(2, ⟨34, ab.cs ++ aa.cs⟩)] (zzn (ret0 [.agg #[.bool ab.s, ab.m.v, ab.d.v, .bool aa.s, aa.m.v, aa.d.v]] ⟨zzq ty34 zze, trivial⟩ fun u59 au => ?_))
 refine ⟨ab, aa, rfl, RatN.more (K := K) ?_ xq, RatN.more (K := K) ?_ xq⟩
 ·exact (aQ.ext (aw.t (aC.t au)))
 exact (az.ext au)
theorem k_ivMake {u w : World} {a : RL} {x : Rat} {b : RL} {y : Rat} {K : Nat} (d : Dat u w) (ha : RatV u a x K) (hb : RatV u b y K) (hK : K ≤ 100000000) : qyc 52 #[a.v, b.v] w (Post u w fun v u' => ∃ p q : RL, v = IV p q ∧ RatN u' p (Nt.lo x y) K ∧ RatN u' q (Nt.hi x y) K) := by
 refine zzl (args := [a.v, b.v]) Tryz.func52 rfl Tryz.ntmps52 (rs := [.cell 4 34]) Tryz.results52 (le_b rfl) (le_b rfl) d ?_
 refine sq9 (zzj 2 ⟨32, a.cs⟩ (zzj 3 ⟨32, b.cs⟩ (zzj 4 ⟨34, zw6⟩ (zzb (sq9 (zzh 8 (.v (a.v)) ty32 zze (zzh 9 (.v (b.v)) ty32 zze (zza 10 (.v (.agg #[.bool a.s, a.m.v, a.d.v, .bool b.s, b.m.v, b.d.v])) (zzg 11 155 _ fun _ _ ah am => qym (k_ends am (ha.ext ah) (hb.ext ah) xq) ?_)))))))))
 rintro _ u16 g17 ⟨ac, ad, rfl, aj, aq⟩
 refine zza 7 (.v (.tuple #[ac.v, ad.v])) (zza 12 (.v (ac.v)) (zza 13 (.v (ad.v)) (zzj 5 ⟨32, zw3⟩ (zzj 6 ⟨32, zw3⟩ (zzi ⟨32, ac.cs⟩ ty32 ?_)))))
 refine zzi ⟨32, ad.cs⟩ ty32 ?_
 refine zzb (zzd (zzy [0, 1, 0, 7, 15, 31] [(0, []), (2, []), (1, []), (3, []), (4, []), (5, [])] xj xj (zzh 14 (.v (ac.v)) ty32 zze (zzh 16 (.v (ad.v)) ty32 zze (zzg 15 156 _ fun _ _ af an => qym (k_ratTrim an (aj.ext af) xq) ?_)))))
 rintro _ u22 ai ⟨ab, rfl, ao⟩
 refine zzg 17 156 _ fun _ _ ae ap => qym (k_ratTrim ap (aq.ext (af.t (ai.t ae))) xq) ?_
 rintro _ u28 al ⟨aa, rfl, ak⟩
 refine zza 18 (.v (.agg #[.bool ab.s, ab.m.v, ab.d.v, .bool aa.s, aa.m.v, aa.d.v])) (zzi ⟨34, ab.cs ++ aa.cs⟩ ty34 ?_)
 refine zzb (zzn (ret0 [.agg #[.bool ab.s, ab.m.v, ab.d.v, .bool aa.s, aa.m.v, aa.d.v]] ⟨zzq ty34 zze, trivial⟩ fun u31 ag => ?_))
 refine ⟨ab, aa, rfl, RatN.more (K := K) ?_ xq, RatN.more (K := K) ?_ xq⟩
 ·exact (ao.ext (ae.t (al.t ag)))
 exact (ak.ext ag)
theorem k_ivAdd {u w : World} {a1 a2 : RL} {x1 x2 : Rat} {b1 b2 : RL} {y1 y2 : Rat} {K L : Nat} (d : Dat u w) (ha1 : RatV u a1 x1 K) (ha2 : RatV u a2 x2 K) (hb1 : RatV u b1 y1 L) (hb2 : RatV u b2 y2 L) (hK : K ≤ 100000000) (hL : L ≤ 100000000) : qyc 55 #[IV a1 a2, IV b1 b2] w (Post u w fun v u' => ∃ p q : RL, v = IV p q ∧ RatN u' p (Nt.lo x1 x2 + Nt.lo y1 y2) (K + L + 1) ∧ RatN u' q (Nt.hi x1 x2 + Nt.hi y1 y2) (K + L + 1)) := by
 refine zzl (args := [.agg #[.bool a1.s, a1.m.v, a1.d.v, .bool a2.s, a2.m.v, a2.d.v], .agg #[.bool b1.s, b1.m.v, b1.d.v, .bool b2.s, b2.m.v, b2.d.v]]) Tryz.func55 rfl Tryz.ntmps55 (rs := [.cell 4 34]) Tryz.results55 (le_b rfl) (le_b rfl) d ?_
 refine sq9 (zzj 2 ⟨34, a1.cs ++ a2.cs⟩ (zzj 3 ⟨34, b1.cs ++ b2.cs⟩ (zzj 4 ⟨34, zw6⟩ (zzb (sq9 (zzh 10 (.v (.agg #[.bool a1.s, a1.m.v, a1.d.v, .bool a2.s, a2.m.v, a2.d.v])) ty34 zze (zzg 11 155 _ fun _ _ ad ar => qym (k_ends ar (ha1.ext ad) (ha2.ext ad) xq) ?_)))))))
 rintro _ u16 an ⟨af, ag, rfl, ap, az⟩
 refine zza 9 (.v (.tuple #[af.v, ag.v])) (zza 12 (.v (af.v)) (zza 13 (.v (ag.v)) (zzj 5 ⟨32, zw3⟩ (zzj 6 ⟨32, zw3⟩ (zzi ⟨32, af.cs⟩ ty32 ?_)))))
 refine zzi ⟨32, ag.cs⟩ ty32 ?_
 refine zzb (sq9 (zzh 15 (.v (.agg #[.bool b1.s, b1.m.v, b1.d.v, .bool b2.s, b2.m.v, b2.d.v])) ty34 zze (zzg 16 155 _ fun _ _ ac av => qym (k_ends av (hb1.ext (ad.t (an.t ac))) (hb2.ext (ad.t (an.t ac))) xq) ?_)))
 rintro _ u24 am ⟨ai, ae, rfl, aw, ax⟩
 refine zza 14 (.v (.tuple #[ai.v, ae.v])) (zza 17 (.v (ai.v)) (zza 18 (.v (ae.v)) (zzj 7 ⟨32, zw3⟩ (zzj 8 ⟨32, zw3⟩ (zzi ⟨32, ai.cs⟩ ty32 ?_)))))
 refine zzi ⟨32, ae.cs⟩ ty32 ?_
 refine zzb (zzd (zzy [0, 0, 3, 0, 0, 31, 63, 127] [(0, []), (1, []), (3, []), (4, []), (2, []), (5, []), (6, []), (7, [])] xj xj (zzh 19 (.v (af.v)) ty32 zze (zzh 20 (.v (ai.v)) ty32 zze (zzh 22 (.v (ag.v)) ty32 zze (zzh 23 (.v (ae.v)) ty32 zze (zzg 21 95 _ fun _ _ ah ay => qym (k_ratAdd ay (ap.ext (ac.t (am.t ah))) (aw.ext ah) xq xq) ?_)))))))
 rintro _ u30 al ⟨aa, rfl, aq⟩
 refine zzg 24 95 _ fun _ _ aj aA => qym (k_ratAdd aA (az.ext (ac.t (am.t (ah.t (al.t aj))))) (ax.ext (ah.t (al.t aj))) xq xq) ?_
 rintro _ u36 au ⟨ab, rfl, ao⟩
 refine zza 25 (.v (.agg #[.bool aa.s, aa.m.v, aa.d.v, .bool ab.s, ab.m.v, ab.d.v])) (zzi ⟨34, aa.cs ++ ab.cs⟩ ty34 ?_)
 refine zzb (zzn (ret0 [.agg #[.bool aa.s, aa.m.v, aa.d.v, .bool ab.s, ab.m.v, ab.d.v]] ⟨zzq ty34 zze, trivial⟩ fun u39 ak => ?_))
 refine ⟨aa, ab, rfl, RatN.more (K := (K + L + 1)) ?_ xq, RatN.more (K := (K + L + 1)) ?_ xq⟩
 ·exact (aq.ext (aj.t (au.t ak)))
 exact (ao.ext ak)
theorem k_ivMul {u w : World} {a1 a2 : RL} {x1 x2 : Rat} {b1 b2 : RL} {y1 y2 : Rat} {K L : Nat} (d : Dat u w) (ha1 : RatV u a1 x1 K) (ha2 : RatV u a2 x2 K) (hb1 : RatV u b1 y1 L) (hb2 : RatV u b2 y2 L) (hK : K ≤ 100000000) (hL : L ≤ 100000000) : qyc 56 #[IV a1 a2, IV b1 b2] w (Post u w fun v u' => ∃ p q : RL, v = IV p q ∧ RatN u' p (Nt.lo4 (x1 * y1) (x1 * y2) (x2 * y1) (x2 * y2)) (K + L) ∧ RatN u' q (Nt.hi4 (x1 * y1) (x1 * y2) (x2 * y1) (x2 * y2)) (K + L)) := by
 refine zzl (args := [.agg #[.bool a1.s, a1.m.v, a1.d.v, .bool a2.s, a2.m.v, a2.d.v], .agg #[.bool b1.s, b1.m.v, b1.d.v, .bool b2.s, b2.m.v, b2.d.v]]) Tryz.func56 rfl Tryz.ntmps56 (rs := [.cell 4 34]) Tryz.results56 (le_b rfl) (le_b rfl) d ?_
 refine sq9 (zzj 2 ⟨34, a1.cs ++ a2.cs⟩ (zzj 3 ⟨34, b1.cs ++ b2.cs⟩ (zzj 4 ⟨34, zw6⟩ (zzb (zzd (zzy [0, 1, 0, 4, 15, 0, 32, 0, 128, 511, 0, 1024, 0, 4096, 16383, 0, 32768, 0, 131072, 524287, 1048575, 2097151, 4194303] [(0, []), (1, []), (2, []), (3, []), (5, []), (6, []), (7, []), (8, []), (10, []), (11, []), (12, []), (13, []), (15, []), (16, []), (17, []), (18, []), (4, []), (9, []), (14, []), (19, []), (20, []), (21, []), (22, [])] xj xj (zza 5 (.adr 2 0) (zzh 6 (.v (a1.v)) ty32 zze (zza 7 (.adr 3 0) (zzh 8 (.v (b1.v)) ty32 zze (zza 10 (.adr 2 0) ?_)))))))))))
 refine zzh 11 (.v (a1.v)) ty32 zze (zza 12 (.adr 3 3) (zzh 13 (.v (b2.v)) ty32 zze (zza 15 (.adr 2 3) (zzh 16 (.v (a2.v)) ty32 zze (zza 17 (.adr 3 0) (zzh 18 (.v (b1.v)) ty32 zze (zza 20 (.adr 2 3) (zzh 21 (.v (a2.v)) ty32 zze (zza 22 (.adr 3 3) (zzh 23 (.v (b2.v)) ty32 zze (zzg 9 98 _ fun _ _ aa ax => qym (k_ratMul ax (ha1.ext aa) (hb1.ext aa) xq xq) ?_)))))))))))
 rintro _ u14 ac ⟨ao, rfl, au⟩
 refine zzg 14 98 _ fun _ _ ab ay => qym (k_ratMul ay (ha1.ext (aa.t (ac.t ab))) (hb2.ext (aa.t (ac.t ab))) xq xq) ?_
 rintro _ u20 ah ⟨ak, rfl, aB⟩
 refine zzg 19 98 _ fun _ _ ad aA => qym (k_ratMul aA (ha2.ext (aa.t (ac.t (ab.t (ah.t ad))))) (hb1.ext (aa.t (ac.t (ab.t (ah.t ad))))) xq xq) ?_
 rintro _ u26 ai ⟨am, rfl, aw⟩
 refine zzg 24 98 _ fun _ _ af aC => qym (k_ratMul aC (ha2.ext (aa.t (ac.t (ab.t (ah.t (ad.t (ai.t af))))))) (hb2.ext (aa.t (ac.t (ab.t (ah.t (ad.t (ai.t af))))))) xq xq) ?_
 rintro _ u32 an ⟨al, rfl, az⟩
 refine zza 25 (.v (.agg #[.bool ao.s, ao.m.v, ao.d.v, .bool ak.s, ak.m.v, ak.d.v, .bool am.s, am.m.v, am.d.v, .bool al.s, al.m.v, al.d.v])) (zzg 26 161 _ fun _ _ aj av => qym (k_around av (au.ext (ab.t (ah.t (ad.t (ai.t (af.t (an.t aj))))))) (aB.ext (ad.t (ai.t (af.t (an.t aj))))) (aw.ext (af.t (an.t aj))) (az.ext aj) xq) ?_)
 rintro _ u40 g41 ⟨ae, ag, rfl, aq, ar⟩
 refine zzi ⟨34, ae.cs ++ ag.cs⟩ ty34 ?_
 refine zzb (zzn (ret0 [.agg #[.bool ae.s, ae.m.v, ae.d.v, .bool ag.s, ag.m.v, ag.d.v]] ⟨zzq ty34 zze, trivial⟩ fun u43 ap => ?_))
 refine ⟨ae, ag, rfl, RatN.more (K := (K + L)) ?_ xq, RatN.more (K := (K + L)) ?_ xq⟩
 ·exact (aq.ext ap)
 exact (ar.ext ap)
theorem k_r4Trim {u w : World} {a1 a2 : RL} {x1 x2 : Rat} {K : Nat} (d : Dat u w) (ha1 : RatV u a1 x1 K) (ha2 : RatV u a2 x2 K) (hK : K ≤ 100000000) : qyc 63 #[IV a1 a2] w (Post u w fun v u' => ∃ p q : RL, v = IV p q ∧ RatN u' p (Nt.lo x1 x2) K ∧ RatN u' q (Nt.hi x1 x2) K) := by
 refine zzl (args := [.agg #[.bool a1.s, a1.m.v, a1.d.v, .bool a2.s, a2.m.v, a2.d.v]]) Tryz.func63 rfl Tryz.ntmps63 (rs := [.cell 2 34]) Tryz.results63 (le_b rfl) (le_b rfl) d ?_
 refine sq9 (zzj 1 ⟨34, a1.cs ++ a2.cs⟩ (zzj 2 ⟨34, zw6⟩ (zzb (zzd (zzy [0, 1, 0, 4, 15, 0, 32, 0, 128, 511, 1023, 2047] [(0, []), (1, []), (2, []), (3, []), (5, []), (6, []), (7, []), (8, []), (4, []), (9, []), (10, []), (11, [])] xj xj (zza 3 (.adr 1 0) (zzh 4 (.v (a1.v)) ty32 zze (zza 5 (.adr 1 3) (zzh 6 (.v (a2.v)) ty32 zze (zza 8 (.adr 1 0) (zzh 9 (.v (a1.v)) ty32 zze ?_)))))))))))
 refine zza 10 (.adr 1 3) (zzh 11 (.v (a2.v)) ty32 zze (zzg 7 65 _ fun _ _ ac ah => qym (k_rqMin ah (ha1.ext ac) (ha2.ext ac) xq xq) ?_))
 rintro _ u14 ae ⟨ab, rfl, ai⟩
 refine zzg 12 64 _ fun _ _ ad aj => qym (k_rqMax aj (ha1.ext (ac.t (ae.t ad))) (ha2.ext (ac.t (ae.t ad))) xq xq) ?_
 rintro _ u20 ak ⟨aa, rfl, ag⟩
 refine zza 13 (.v (.agg #[.bool ab.s, ab.m.v, ab.d.v, .bool aa.s, aa.m.v, aa.d.v])) (zzi ⟨34, ab.cs ++ aa.cs⟩ ty34 ?_)
 refine zzb (zzn (ret0 [.agg #[.bool ab.s, ab.m.v, ab.d.v, .bool aa.s, aa.m.v, aa.d.v]] ⟨zzq ty34 zze, trivial⟩ fun u23 af => ?_))
 refine ⟨ab, aa, rfl, RatN.more (K := (max K K)) ?_ xq, RatN.more (K := (max K K)) ?_ xq⟩
 ·exact (ai.ext (ad.t (ak.t af)))
 exact (ag.ext af)
theorem k_r4Make {u w : World} {a : RL} {x : Rat} {b : RL} {y : Rat} {K : Nat} (d : Dat u w) (ha : RatV u a x K) (hb : RatV u b y K) (hK : K ≤ 100000000) : qyc 59 #[a.v, b.v] w (Post u w fun v u' => ∃ p q : RL, v = IV p q ∧ RatN u' p (Nt.lo x y) K ∧ RatN u' q (Nt.hi x y) K) := by
 refine zzl (args := [a.v, b.v]) Tryz.func59 rfl Tryz.ntmps59 (rs := [.cell 4 34]) Tryz.results59 (le_b rfl) (le_b rfl) d ?_
 refine sq9 (zzj 2 ⟨32, a.cs⟩ (zzj 3 ⟨32, b.cs⟩ (zzj 4 ⟨34, zw6⟩ (zzb (sq9 (zzh 5 (.v (a.v)) ty32 zze (zzh 6 (.v (b.v)) ty32 zze (zza 7 (.v (.agg #[.bool a.s, a.m.v, a.d.v, .bool b.s, b.m.v, b.d.v])) (zzg 8 63 _ fun _ _ ad ae => qym (k_r4Trim ae (ha.ext ad) (hb.ext ad) xq) ?_)))))))))
 rintro _ u16 g17 ⟨ab, aa, rfl, af, ag⟩
 refine zzi ⟨34, ab.cs ++ aa.cs⟩ ty34 ?_
 refine zzb (zzn (ret0 [.agg #[.bool ab.s, ab.m.v, ab.d.v, .bool aa.s, aa.m.v, aa.d.v]] ⟨zzq ty34 zze, trivial⟩ fun u19 ac => ?_))
 refine ⟨ab, aa, rfl, RatN.more (K := K) ?_ xq, RatN.more (K := K) ?_ xq⟩
 ·exact (af.ext ac)
 exact (ag.ext ac)
end Go.Proofs.YtcmllhhiekjmaaaGreat
