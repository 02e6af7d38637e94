/- Contracts of the reference of rational. Printed by wip/sym/g_rq.py. Contracts of integer. Printed by wip/sym/g_int.py. Contracts of rational. Printed by wip/sym/g_rat.py. Contracts of interval. Printed by wip/sym/g_itv.py. Contracts of the reference of interval, of small functions. Printed by wip/sym/g_r4.py. -/
import Derived.Test.YtedobdigeeflcaaGreatBwhD
set_option linter.unusedVariables false
set_option maxHeartbeats 8000000
namespace Go.Proofs.YtedobdigeeflcaaGreat
open Nt
open Go.RowKit
theorem k_reduce {u w:World} {i1 i2:IL} {z y:Int} {K L:Nat} (d:Dat u w) (hi1:IntV u i1 z K) (hi2:IntV u i2 y L) (hK:K≤400000000) (hL:L≤400000000):qyc 20 #[i1.v,i2.v] w (Post u w fun v u'=>∃r:RL,v=r.v∧RatN u' r ((z:Rat) / (y:Rat)) (max K L+1)):=by
 refine zzm Tryz.func20 rfl Tryz.ntmps20 Tryz.results20 d ?_
 refine sq9 (zzk 2 ⟨26,i1.cs⟩ (zzk 3 ⟨26,i2.cs⟩ (zzk 4 ⟨28,zw3⟩ (zzb (zzd (sq9 (zzi 12 (.v (i1.v)) ty26 zze (zzg 13 60 _ fun _ _ af aK=>qym (k_riSign aK (hi1.ext af) xq) ?_))))))))
 rintro _ u12 ag rfl
 refine zza 14 (zB ((cmpS z 0)==0)) ?_
 rcases Bool.eq_false_or_eq_true ((cmpS z 0)==0) with hs15 | hs15
 ·refine qbi 15 hs15 ?_
  have aB:z=0:=cmp_eq0 hs15
  refine zzn 16 (uw 3 false true 15) (zzn 17 (uw 3 false true 15) (zzn 18 (uw 3 false true 15) (zza 19 (zB true) (zzb (zyr xj (sq9 (zxx 20 ⟨79,[.int .u32 1]⟩ 1 (fun aj u17 e18 aQ=>?_))))))))
  refine zza 21 (.v (.agg #[.bool false,qyn,.slice (some ⟨aj,0,none⟩) 1 1])) (zzj ⟨28,[.bool false,qyn,.slice (some ⟨aj,0,none⟩) 1 1]⟩ ty28 ?_)
  refine zzb (zzo (zzw (ret0 [.agg #[.bool false,qyn,.slice (some ⟨aj,0,none⟩) 1 1]] ⟨zzr ty28 zze,trivial⟩ fun u20 aP=>?_)))
  refine ⟨(⟨false,⟨none,0,0⟩,(⟨some ⟨aj,0,none⟩,1,1⟩:Sl)⟩:RL),rfl,?_⟩
  have h9:(z:Rat) / (y:Rat)=((0:Int):Rat):=by rw[aB];simp[Rat.div_def]
  rw[h9]
  exact RatN.more (whole_rat (int_zero _ 1) ((one_data aQ).ext aP)) xq
 refine qbi 15 hs15 ?_
 have aB:z≠0:=cmp_ne0 hs15
 refine zzi 16 (.v (i2.v)) ty26 zze ?_ (hw:=w1 3 false 15)
 refine zzg 17 60 _ (fun _ _ ai aL=>qym (k_riSign aL (hi2.ext (af.t (ag.t ai))) xq) ?_) (hw:=w1 3 false 15)
 rintro _ u23 an rfl
 refine zza 18 (zB ((cmpS y 0)==0)) ?_ (hw:=w1 3 false 15)
 refine zza 19 (zB ((cmpS y 0)==0)) (zzb (zzu (b:=(cmpS y 0)==0) xj (fun ae=>?_) (fun ae=>?_)))
 ·have ah:y=0:=cmp_eq0 ae
  refine sq9 (zxx 20 ⟨79,[.int .u32 1]⟩ 1 (fun ap u28 e29 aH=>?_))
  refine zza 21 (.v (.agg #[.bool false,qyn,.slice (some ⟨ap,0,none⟩) 1 1])) (zzj ⟨28,[.bool false,qyn,.slice (some ⟨ap,0,none⟩) 1 1]⟩ ty28 ?_)
  refine zzb (zzo (zzw (ret0 [.agg #[.bool false,qyn,.slice (some ⟨ap,0,none⟩) 1 1]] ⟨zzr ty28 zze,trivial⟩ fun u31 aG=>?_)))
  refine ⟨(⟨false,⟨none,0,0⟩,(⟨some ⟨ap,0,none⟩,1,1⟩:Sl)⟩:RL),rfl,?_⟩
  have h9:(z:Rat) / (y:Rat)=((0:Int):Rat):=by rw[ah];simp[Rat.div_def]
  rw[h9]
  exact RatN.more (whole_rat (int_zero _ 1) ((one_data aH).ext aG)) xq
 have ah:y≠0:=cmp_ne0 ae
 have ax:((Nat.gcd z.natAbs y.natAbs:Nat):Int)≠0:=by have h9:=Nat.gcd_pos_of_pos_right z.natAbs (Int.natAbs_pos.2 ah);omega
 refine zzs (zzp ?_)
 refine sq9 (zzi 22 (.v (i1.v)) ty26 zze (zzi 23 (.v (i2.v)) ty26 zze (zzg 24 61 _ fun _ _ ao aI=>qym (k_riGcd aI (hi1.ext (af.t (ag.t (ai.t (an.t ao))))) (hi2.ext (af.t (ag.t (ai.t (an.t ao))))) xq xq) ?_)))
 rintro _ u36 ay ⟨aq,rfl,aC⟩
 refine zzk 5 ⟨26,[.bool false,qyn]⟩ (zzj ⟨26,aq.cs⟩ ty26 ?_)
 refine zzb (sq9 (zzi 26 (.v (i1.v)) ty26 zze (zzi 27 (.v (aq.v)) ty26 zze (zzg 28 62 _ fun _ _ al aM=>qym (k_riDiv aM (hi1.ext (af.t (ag.t (ai.t (an.t (ao.t (ay.t al))))))) (aC.ext al).raw ax xq xq) ?_))))
 rintro _ u44 av ⟨ac,ar,rfl,aw,h43⟩
 refine zza 25 (.v (.tuple #[ac.v,ar.v,.int .i64 0])) (zza 29 (.v (ac.v)) (zza 30 (.v (ar.v)) (zza 31 (zI 0) (zzk 6 ⟨26,[.bool false,qyn]⟩ (zzk 7 ⟨26,[.bool false,qyn]⟩ (zzj ⟨26,ac.cs⟩ ty26 ?_))))))
 refine zzj ⟨26,ar.cs⟩ ty26 ?_
 refine zza 8 (zI 0) (zzb (sq9 (zzi 33 (.v (i2.v)) ty26 zze (zzi 34 (.v (aq.v)) ty26 zze (zzg 35 62 _ fun _ _ am aR=>qym (k_riDiv aR (hi2.ext (af.t (ag.t (ai.t (an.t (ao.t (ay.t (al.t (av.t am))))))))) (aC.ext (al.t (av.t am))).raw ax xq xq) ?_)))))
 rintro _ u52 aE ⟨aa,au,rfl,ak,h51⟩
 refine zza 32 (.v (.tuple #[aa.v,au.v,.int .i64 0])) (zza 36 (.v (aa.v)) (zza 37 (.v (au.v)) (zza 38 (zI 0) (zzk 9 ⟨26,[.bool false,qyn]⟩ (zzk 10 ⟨26,[.bool false,qyn]⟩ (zzj ⟨26,aa.cs⟩ ty26 ?_))))))
 refine zzj ⟨26,au.cs⟩ ty26 ?_
 refine zza 11 (zI 0) (zzc 47 [(4,.adr 4 0),(6,.adr 6 0),(9,.adr 9 0)] [(4,⟨28,zw3⟩),(6,⟨26,ac.cs⟩),(9,⟨26,aa.cs⟩)] (zzd (sq9 (zza 39 (.adr 9 0) (zzi 40 (zB aa.s) ty4 zzl (zzb (zzu (b:=aa.s) xj (fun ab=>?_) (fun ab=>?_))))))))
 ·replace ab:aa.s=true:=ab
  refine zzf (zzi 41 (.v (ac.v)) ty26 zze (zzg 42 63 _ fun _ _ aF aN=>qym (k_riNeg aN (aw.ext (am.t (aE.t aF))).raw xq) ?_))
  rintro _ u59 aO ⟨ad,rfl,aJ⟩
  refine zzj ⟨26,ad.cs⟩ ty26 ?_
  refine zzb (sq9 (zzi 43 (.v (ad.v)) ty26 zze (zza 44 (.adr 9 1) (zzi 45 (.v (aa.m.v)) ty24 zzl (zza 46 (.v (.agg #[.bool ad.s,ad.m.v,aa.m.v])) (zzj ⟨28,ad.cs++[aa.m.v]⟩ ty28 ?_))))))
  refine zzb (zzo (ret0 [.agg #[.bool ad.s,ad.m.v,aa.m.v]] ⟨zzr ty28 zze,trivial⟩ fun u62 aA=>?_))
  refine ⟨(⟨ad.s,ad.m,aa.m⟩:RL),rfl,RatN.more (red_neg ah rfl (aJ.ext aA) ak ab ((int_mag ak).ext (aF.t (aO.t aA)))) xq⟩
 replace ab:aa.s=false:=ab
 refine zzs (zzp ?_)
 refine sq9 (zzi 43 (.v (ac.v)) ty26 zze (zza 44 (.adr 9 1) (zzi 45 (.v (aa.m.v)) ty24 zzl (zza 46 (.v (.agg #[.bool ac.s,ac.m.v,aa.m.v])) (zzj ⟨28,ac.cs++[aa.m.v]⟩ ty28 ?_)))))
 refine zzb (zzo (ret0 [.agg #[.bool ac.s,ac.m.v,aa.m.v]] ⟨zzr ty28 zze,trivial⟩ fun u64 aD=>?_))
 refine ⟨(⟨ac.s,ac.m,aa.m⟩:RL),rfl,RatN.more (red_pos ah rfl (aw.ext (am.t (aE.t aD))) ak ab ((int_mag ak).ext aD)) xq⟩
theorem k_parts {u w:World} {r:RL} {q:Rat} {K:Nat} (d:Dat u w) (h:RatV u r q K) (hKK:K≤400000000):qyc 53 #[r.v] w (Post u w (PartV q K)):=by
 obtain ⟨⟨z,D,hi,hd,hq⟩,hK⟩:=h
 change IntV u ⟨r.s,r.m⟩ z K at hi
 change NatV u r.d D K at hd
 refine zzm Tryz.func53 rfl Tryz.ntmps53 Tryz.results53 d ?_
 refine sq9 (zzk 1 ⟨28,r.cs⟩ (zzk 2 ⟨26,[.bool false,qyn]⟩ (zzk 3 ⟨26,[.bool false,qyn]⟩ (zzb (sq9 (zza 5 (.adr 1 2) (zzi 6 (.v (r.d.v)) ty24 zzl (zzg 7 117 _ fun _ _ ag ah=>qym (k_rnTrim ah (hd.ext ag) xq) ?_))))))))
 rintro _ u14 ak ⟨aa,rfl,ae⟩
 refine zza 8 (.v (.agg #[.bool false,aa.v])) (zzk 4 ⟨26,[.bool false,qyn]⟩ (zzj ⟨26,[.bool false,aa.v]⟩ ty26 ?_))
 refine zzb (zzd (sq9 (zza 9 (.adr 4 1) (zzi 10 (.v (aa.v)) ty24 zzl (zza 11 (zI aa.n) (zza 12 (zB ((aa.n:Int)==0)) (zzb (zzu (b:=(aa.n:Int)==0) xj (fun ab=>?_) (fun ab=>?_)))))))))
 ·have ac:(aa.n:Int)=0:=by simpa using ab
  refine sq9 (zza 13 (.v (.agg #[.bool false,qyn])) (zxx 14 ⟨79,[.int .u32 1]⟩ 1 (fun ad u19 e20 ai=>?_)))
  refine zza 15 (.v (.agg #[.bool false,.slice (some ⟨ad,0,none⟩) 1 1])) (zzj ⟨26,[.bool false,qyn]⟩ ty26 ?_)
  refine zzj ⟨26,[.bool false,.slice (some ⟨ad,0,none⟩) 1 1]⟩ ty26 ?_
  refine zzb (zzo (zzw (ret0 [.agg #[.bool false,qyn],.agg #[.bool false,.slice (some ⟨ad,0,none⟩) 1 1]] ⟨zzr ty26 zze,zzr ty26 zze,trivial⟩ fun u22 aj=>?_)))
  have hp:=ae.pos
  have hD:D=0:=by simp at ab;omega
  exact ⟨⟨false,⟨none,0,0⟩⟩,⟨false,(⟨some ⟨ad,0,none⟩,1,1⟩:Sl)⟩,0,1,rfl,(int_zero _ K).raw,nat_intN (((one_data ai).ext aj).more hK),by omega,by rw[hq,hD];simp,hK⟩
 have ac:¬((aa.n:Int)=0):=by simpa using ab
 refine zzs (zzp ?_)
 refine zzd (zzz [0,1,0,3,15] [(0,[]),(1,[]),(2,[]),(3,[4]),(4,[])] xj xj (zza 16 (.adr 1 0) (zzi 17 (.v (.agg #[.bool r.s,r.m.v])) ty26 zze (zzi 18 (.v (.agg #[.bool false,aa.v])) ty26 zze (zzj ⟨26,[.bool r.s,r.m.v]⟩ ty26 ?_)))))
 refine zzj ⟨26,[.bool false,aa.v]⟩ ty26 ?_
 refine zzb (zzo (ret0 [.agg #[.bool r.s,r.m.v],.agg #[.bool false,aa.v]] ⟨zzr ty26 zze,zzr ty26 zze,trivial⟩ fun u24 af=>?_))
 have hp:=ae.pos
 exact ⟨⟨r.s,r.m⟩,⟨false,aa⟩,z,D,rfl,(hi.ext (ag.t (ak.t af))),nat_intN (ae.ext af),by simp at ab;omega,hq,hK⟩
theorem k_rqTrim {u w:World} {r1:RL} {x:Rat} {K:Nat} (d:Dat u w) (hr1:RatV u r1 x K) (hK:K≤100000000):qyc 57 #[r1.v] w (Post u w fun v u'=>∃r:RL,v=r.v∧RatN u' r x K):=by
 refine zzm Tryz.func57 rfl Tryz.ntmps57 Tryz.results57 d ?_
 refine sq9 (zzk 1 ⟨28,r1.cs⟩ (zzk 2 ⟨28,zw3⟩ (zzb (sq9 (zzi 6 (.v (r1.v)) ty28 zze (zzg 7 53 _ fun _ _ ai aj=>qym (k_parts aj (hr1.ext ai) xq) ?_))))))
 rintro _ u13 g14 ⟨aa,ab,z12,D12,rfl,ae,ac,ak,af,ah⟩
 refine zza 5 (.v (.tuple #[aa.v,ab.v])) (zza 8 (.v (aa.v)) (zza 9 (.v (ab.v)) (zzk 3 ⟨26,[.bool false,qyn]⟩ (zzk 4 ⟨26,[.bool false,qyn]⟩ (zzj ⟨26,aa.cs⟩ ty26 ?_)))))
 refine zzj ⟨26,ab.cs⟩ ty26 ?_
 refine zzb (sq9 (zzi 10 (.v (aa.v)) ty26 zze (zzi 11 (.v (ab.v)) ty26 zze (zzg 12 20 _ fun _ _ ag an=>qym (k_reduce an (ae.ext ag) (ac.ext ag).raw xq xq) ?_))))
 rintro _ u19 g20 ⟨ad,rfl,am⟩
 refine zzj ⟨28,ad.cs⟩ ty28 ?_
 refine zzb (zzo (ret0 [ad.v] ⟨zzr ty28 zze,trivial⟩ fun u22 al=>?_))
 refine ⟨ad,rfl,RatN.fit (K:=(max K K+1)) ?_ (hr1.rs)⟩
 rw[af,← mk_div]
 exact (am.ext al)
theorem k_rqSame {u w:World} {r1 r2:RL} {x y:Rat} {K L:Nat} (d:Dat u w) (hr1:RatN u r1 x K) (hr2:RatN u r2 y L):qyc 165 #[r1.v,r2.v] w (Post u w fun v _=>v=.bool (decide (x=y))):=by
 refine zzm Tryz.func165 rfl Tryz.ntmps165 Tryz.results165 d ?_
 refine sq9 (zzk 2 ⟨28,r1.cs⟩ (zzk 3 ⟨28,r2.cs⟩ (zza 4 (zB false) (zzb (sq9 (zza 5 (.adr 2 0) (zzi 6 (.v (.agg #[.bool r1.s,r1.m.v])) ty26 zze (zza 7 (.adr 3 0) (zzi 8 (.v (.agg #[.bool r2.s,r2.m.v])) ty26 zze (zzg 9 197 _ fun _ _ aa ad=>qym (k_riSame ad ((RatN.num hr1).ext aa) ((RatN.num hr2).ext aa)) ?_))))))))))
 rintro _ u12 ab rfl
 rcases Bool.eq_false_or_eq_true (decide (x.num=y.num)) with hs15 | hs15
 ·refine qbi 10 hs15 ?_
  have qhs15:=qyt hs15
  refine zza 11 (.adr 2 2) ?_ (hw:=w1 5 true 10)
  refine zzi 12 (.v (r1.d.v)) ty24 zzl ?_ (hw:=w1 5 true 10)
  refine zza 13 (.adr 3 2) ?_ (hw:=w1 5 true 10)
  refine zzi 14 (.v (r2.d.v)) ty24 zzl ?_ (hw:=w1 5 true 10)
  refine zzg 15 198 _ (fun _ _ ac ae=>qym (k_rnSame ae ((RatN.den hr1).ext (aa.t (ab.t ac))) ((RatN.den hr2).ext (aa.t (ab.t ac)))) ?_) (hw:=w1 5 true 10)
  rintro _ u17 g18 rfl
  refine zza 16 (zB (decide (x.den=y.den))) (zza 4 (zB (decide (x.den=y.den))) (zzb (zzo (ret0 [.bool (decide (x.den=y.den))] ⟨zzq,trivial⟩ fun u20 e21=>?_))))
  show _=_
  rw[← same_q,hs15]
  rfl
 refine qbi 10 hs15 ?_
 have qhs15:=qyf hs15
 refine zzn 11 (uw 5 true false 10) (zzn 12 (uw 5 true false 10) (zzn 13 (uw 5 true false 10) (zzn 14 (uw 5 true false 10) (zzn 15 (uw 5 true false 10) (zza 16 (zB false) (zza 4 (zB false) (zzb (zzo (ret0 [.bool false] ⟨zzq,trivial⟩ fun u22 e23=>?_)))))))))
 show _=_
 rw[← same_q,hs15]
 rfl
theorem k_rqOf {u w:World} {z:Int} (d:Dat u w) (h0 : -9223372036854775808≤z) (h1:z≤9223372036854775807):qyc 11 #[.int .i64 z] w (Post u w fun v u'=>∃r:RL,v=r.v∧RatN u' r (z:Rat) 2):=by
 refine zzm Tryz.func11 rfl Tryz.ntmps11 Tryz.results11 d ?_
 refine sq9 (zzk 2 ⟨28,zw3⟩ (zzb (sq9 (zza 3 (zI z) (zzg 4 21 _ fun _ _ _ ad=>qym (k_riOf ad (z:=z) xq xq) ?_)))))
 rintro _ u14 g15 ⟨aa,rfl,ae⟩
 refine zxx 5 ⟨79,[.int .u32 1]⟩ 1 (fun ab u18 af ag=>?_)
 refine zza 6 (.v (.agg #[.bool aa.s,aa.m.v,.slice (some ⟨ab,0,none⟩) 1 1])) (zzj ⟨28,aa.cs++[.slice (some ⟨ab,0,none⟩) 1 1]⟩ ty28 ?_)
 refine zzb (zzo (ret0 [.agg #[.bool aa.s,aa.m.v,.slice (some ⟨ab,0,none⟩) 1 1]] ⟨zzr ty28 zze,trivial⟩ fun u21 ac=>?_))
 refine ⟨(⟨aa.s,aa.m,(⟨some ⟨ab,0,none⟩,1,1⟩:Sl)⟩:RL),rfl,?_⟩
 exact whole_rat (ae.ext (af.trans ac)) ((one_data ag).ext ac)
theorem k_rqFrac {u w:World} {a b:Int} (d:Dat u w) (ha0 : -9223372036854775808≤a) (ha1:a≤9223372036854775807) (hb0 : -9223372036854775808≤b) (hb1:b≤9223372036854775807):qyc 5 #[.int .i64 a,.int .i64 b] w (Post u w fun v u'=>∃r:RL,v=r.v∧RatN u' r ((a:Rat) / (b:Rat)) 3):=by
 refine zzm Tryz.func5 rfl Tryz.ntmps5 Tryz.results5 d ?_
 refine sq9 (zzk 4 ⟨28,zw3⟩ (zzb (sq9 (zza 5 (zI a) (zzg 6 21 _ fun _ _ _ af=>qym (k_riOf af (z:=a) xq xq) ?_)))))
 rintro _ u14 g15 ⟨i12,rfl,ac⟩
 refine zza 7 (zI b) (zzg 8 21 _ fun _ _ ad ag=>qym (k_riOf ag (z:=b) xq xq) ?_)
 rintro _ u20 aj ⟨i18,rfl,ak⟩
 refine zzg 9 20 _ fun _ _ ab ai=>qym (k_reduce ai (ac.ext (ad.t (aj.t ab))).raw (ak.ext ab).raw xq xq) ?_
 rintro _ u26 g27 ⟨aa,rfl,ah⟩
 refine zzj ⟨28,aa.cs⟩ ty28 ?_
 refine zzb (zzo (ret0 [aa.v] ⟨zzr ty28 zze,trivial⟩ fun u29 ae=>?_))
 refine ⟨aa,rfl,RatN.more (K:=(max 2 2+1)) ?_ xq⟩
 exact (ah.ext ae)
theorem k_rqSign {u w:World} {r1:RL} {x:Rat} {K:Nat} (d:Dat u w) (hr1:RatV u r1 x K) (hK:K≤100000000):qyc 38 #[r1.v] w (Post u w fun v u'=>v=.int .i64 (sgQ x)):=by
 refine zzm Tryz.func38 rfl Tryz.ntmps38 Tryz.results38 d ?_
 refine sq9 (zzk 1 ⟨28,r1.cs⟩ (zza 2 (zI 0) (zzb (sq9 (zzi 6 (.v (r1.v)) ty28 zze (zzg 7 53 _ fun _ _ ah ai=>qym (k_parts ai (hr1.ext ah) xq) ?_))))))
 rintro _ u13 g14 ⟨aa,ac,af,D12,rfl,ad,aj,ab,ae,ag⟩
 refine zza 5 (.v (.tuple #[aa.v,ac.v])) (zza 8 (.v (aa.v)) (zza 9 (.v (ac.v)) (zzk 3 ⟨26,[.bool false,qyn]⟩ (zzk 4 ⟨26,[.bool false,qyn]⟩ (zzj ⟨26,aa.cs⟩ ty26 ?_)))))
 refine zzj ⟨26,ac.cs⟩ ty26 ?_
 refine zzb (sq9 (zzi 10 (.v (aa.v)) ty26 zze (zzg 11 60 _ fun _ _ ak al=>qym (k_riSign al (ad.ext ak) xq) ?_)))
 rintro _ u17 g18 rfl
 refine zza 2 (zI (cmpS af 0)) (zzb (zzo (ret0 [.int .i64 (cmpS af 0)] ⟨zzq,trivial⟩ fun u20 e21=>?_)))
 show _=_
 rw[ae,← sg_mk ab]
 rfl
theorem k_rqCompare {u w:World} {r1:RL} {x:Rat} {K:Nat} {r2:RL} {y:Rat} {L:Nat} (d:Dat u w) (hr1:RatV u r1 x K) (hr2:RatV u r2 y L) (hK:K≤100000000) (hL:L≤100000000):qyc 13 #[r1.v,r2.v] w (Post u w fun v u'=>v=.int .i64 (cmpQ x y)):=by
 refine zzm Tryz.func13 rfl Tryz.ntmps13 Tryz.results13 d ?_
 refine sq9 (zzk 2 ⟨28,r1.cs⟩ (zzk 3 ⟨28,r2.cs⟩ (zza 4 (zI 0) (zzb (sq9 (zzi 10 (.v (r1.v)) ty28 zze (zzg 11 53 _ fun _ _ au aE=>qym (k_parts aE (hr1.ext au) xq) ?_)))))))
 rintro _ u13 aG ⟨ab,ad,ar,ap,rfl,am,aj,ai,ao,aA⟩
 refine zza 9 (.v (.tuple #[ab.v,ad.v])) (zza 12 (.v (ab.v)) (zza 13 (.v (ad.v)) (zzk 5 ⟨26,[.bool false,qyn]⟩ (zzk 6 ⟨26,[.bool false,qyn]⟩ (zzj ⟨26,ab.cs⟩ ty26 ?_)))))
 refine zzj ⟨26,ad.cs⟩ ty26 ?_
 refine zzb (sq9 (zzi 15 (.v (r2.v)) ty28 zze (zzg 16 53 _ fun _ _ al aK=>qym (k_parts aK (hr2.ext (au.t (aG.t al))) xq) ?_)))
 rintro _ u18 aq ⟨aa,ae,aw,ax,rfl,ah,ak,ag,af,aC⟩
 refine zza 14 (.v (.tuple #[aa.v,ae.v])) (zza 17 (.v (aa.v)) (zza 18 (.v (ae.v)) (zzk 7 ⟨26,[.bool false,qyn]⟩ (zzk 8 ⟨26,[.bool false,qyn]⟩ (zzj ⟨26,aa.cs⟩ ty26 ?_)))))
 refine zzj ⟨26,ae.cs⟩ ty26 ?_
 refine zzb (zzd (zzz [0,0,3,0,0,31,63,127] [(0,[]),(1,[]),(3,[]),(4,[]),(2,[]),(5,[]),(6,[]),(7,[])] xj xj (zzi 19 (.v (ab.v)) ty26 zze (zzi 20 (.v (ae.v)) ty26 zze (zzi 22 (.v (aa.v)) ty26 zze (zzi 23 (.v (ad.v)) ty26 zze (zzg 21 55 _ fun _ _ ac aF=>qym (k_riMul aF (am.ext (al.t (aq.t ac))) (ak.ext ac).raw xq xq) ?_)))))))
 rintro _ u24 av ⟨i22,rfl,aI⟩
 refine zzg 24 55 _ fun _ _ an aJ=>qym (k_riMul aJ (ah.ext (ac.t (av.t an))) (aj.ext (al.t (aq.t (ac.t (av.t an))))).raw xq xq) ?_
 rintro _ u30 aH ⟨i28,rfl,aD⟩
 refine zzg 25 54 _ fun _ _ ay aB=>qym (k_riCompare aB (aI.ext (an.t (aH.t ay))).raw (aD.ext ay).raw xq xq) ?_
 rintro _ u34 g35 rfl
 refine zza 4 (zI (cmpS (ar*(ax:Int)) (aw*(ap:Int)))) (zzb (zzo (ret0 [.int .i64 (cmpS (ar*(ax:Int)) (aw*(ap:Int)))] ⟨zzq,trivial⟩ fun u37 e38=>?_)))
 show _=_
 rw[ao,af,← cmp_mk ai ag]
 rfl
theorem k_rqLess {u w:World} {r1:RL} {x:Rat} {K:Nat} {r2:RL} {y:Rat} {L:Nat} (d:Dat u w) (hr1:RatV u r1 x K) (hr2:RatV u r2 y L) (hK:K≤100000000) (hL:L≤100000000):qyc 114 #[r1.v,r2.v] w (Post u w fun v u'=>v=.bool (decide (x<y))):=by
 refine zzm Tryz.func114 rfl Tryz.ntmps114 Tryz.results114 d ?_
 refine sq9 (zzk 2 ⟨28,r1.cs⟩ (zzk 3 ⟨28,r2.cs⟩ (zza 4 (zB false) (zzb (sq9 (zzi 5 (.v (r1.v)) ty28 zze (zzi 6 (.v (r2.v)) ty28 zze (zzg 7 13 _ fun _ _ aa ab=>qym (k_rqCompare ab (hr1.ext aa) (hr2.ext aa) xq xq) ?_))))))))
 rintro _ u12 g13 rfl
 refine zza 8 (zB (decide ((cmpQ x y)<0))) (zza 4 (zB (decide ((cmpQ x y)<0))) (zzb (zzo (ret0 [.bool (decide ((cmpQ x y)<0))] ⟨zzq,trivial⟩ fun u15 e16=>?_))))
 show _=_
 rw[← cmpQ_lt]
 rfl
theorem k_rqNeg {u w:World} {r1:RL} {x:Rat} {K:Nat} (d:Dat u w) (hr1:RatV u r1 x K) (hK:K≤100000000):qyc 59 #[r1.v] w (Post u w fun v u'=>∃r:RL,v=r.v∧RatN u' r (-x) K):=by
 refine zzm Tryz.func59 rfl Tryz.ntmps59 Tryz.results59 d ?_
 refine sq9 (zzk 1 ⟨28,r1.cs⟩ (zzk 2 ⟨28,zw3⟩ (zzb (sq9 (zzi 3 (.v (r1.v)) ty28 zze (zzg 4 57 _ fun _ _ ah af=>qym (k_rqTrim af (hr1.ext ah) xq) ?_))))))
 rintro _ u14 g15 ⟨ab,rfl,ac⟩
 refine zzj ⟨28,ab.cs⟩ ty28 ?_
 refine zzb (sq9 (zza 5 (.adr 1 0) (zzi 6 (.v (.agg #[.bool ab.s,ab.m.v])) ty26 zze (zzg 7 63 _ fun _ _ ad ag=>qym (k_riNeg ag ((RatN.num ac).ext ad).raw xq) ?_))))
 rintro _ u20 ai ⟨aa,rfl,aj⟩
 refine zza 8 (.adr 1 0) (zzj ⟨28,aa.cs++[ab.d.v]⟩ ty26 ?_)
 refine zzb (sq9 (zzi 9 (.v (.agg #[.bool aa.s,aa.m.v,ab.d.v])) ty28 zze (zzj ⟨28,aa.cs++[ab.d.v]⟩ ty28 ?_)))
 refine zzb (zzo (ret0 [.agg #[.bool aa.s,aa.m.v,ab.d.v]] ⟨zzr ty28 zze,trivial⟩ fun u23 ae=>?_))
 exact ⟨(⟨aa.s,aa.m,ab.d⟩:RL),rfl,neg_rat (ac.ext (ad.t (ai.t ae))) (aj.ext ae)⟩
theorem k_rqAbs {u w:World} {r1:RL} {x:Rat} {K:Nat} (d:Dat u w) (hr1:RatV u r1 x K) (hK:K≤100000000):qyc 18 #[r1.v] w (Post u w fun v u'=>∃r:RL,v=r.v∧RatN u' r (absQ x) K):=by
 refine zzm Tryz.func18 rfl Tryz.ntmps18 Tryz.results18 d ?_
 refine sq9 (zzk 1 ⟨28,r1.cs⟩ (zzk 2 ⟨28,zw3⟩ (zzb (sq9 (zzi 3 (.v (r1.v)) ty28 zze (zzg 4 57 _ fun _ _ ah af=>qym (k_rqTrim af (hr1.ext ah) xq) ?_))))))
 rintro _ u14 g15 ⟨ab,rfl,ac⟩
 refine zzj ⟨28,ab.cs⟩ ty28 ?_
 refine zzb (sq9 (zza 5 (.adr 1 0) (zzi 6 (.v (.agg #[.bool ab.s,ab.m.v])) ty26 zze (zzg 7 58 _ fun _ _ ad ag=>qym (k_riAbs ag ((RatN.num ac).ext ad).raw xq) ?_))))
 rintro _ u20 ai ⟨aa,rfl,aj⟩
 refine zza 8 (.adr 1 0) (zzj ⟨28,aa.cs++[ab.d.v]⟩ ty26 ?_)
 refine zzb (sq9 (zzi 9 (.v (.agg #[.bool aa.s,aa.m.v,ab.d.v])) ty28 zze (zzj ⟨28,aa.cs++[ab.d.v]⟩ ty28 ?_)))
 refine zzb (zzo (ret0 [.agg #[.bool aa.s,aa.m.v,ab.d.v]] ⟨zzr ty28 zze,trivial⟩ fun u23 ae=>?_))
 exact ⟨(⟨aa.s,aa.m,ab.d⟩:RL),rfl,abs_rat3 (ac.ext (ad.t (ai.t ae))) (aj.ext ae)⟩
theorem k_rqAdd {u w:World} {r1:RL} {x:Rat} {K:Nat} {r2:RL} {y:Rat} {L:Nat} (d:Dat u w) (hr1:RatV u r1 x K) (hr2:RatV u r2 y L) (hK:K≤100000000) (hL:L≤100000000):qyc 17 #[r1.v,r2.v] w (Post u w fun v u'=>∃r:RL,v=r.v∧RatN u' r (x+y) (K+L+2)):=by
 refine zzm Tryz.func17 rfl Tryz.ntmps17 Tryz.results17 d ?_
 refine sq9 (zzk 2 ⟨28,r1.cs⟩ (zzk 3 ⟨28,r2.cs⟩ (zzk 4 ⟨28,zw3⟩ (zzb (sq9 (zzi 10 (.v (r1.v)) ty28 zze (zzg 11 53 _ fun _ _ ax aG=>qym (k_parts aG (hr1.ext ax) xq) ?_)))))))
 rintro _ u13 aK ⟨ai,ad,z12,D12,rfl,au,ab,aq,aw,aB⟩
 refine zza 9 (.v (.tuple #[ai.v,ad.v])) (zza 12 (.v (ai.v)) (zza 13 (.v (ad.v)) (zzk 5 ⟨26,[.bool false,qyn]⟩ (zzk 6 ⟨26,[.bool false,qyn]⟩ (zzj ⟨26,ai.cs⟩ ty26 ?_)))))
 refine zzj ⟨26,ad.cs⟩ ty26 ?_
 refine zzb (sq9 (zzi 15 (.v (r2.v)) ty28 zze (zzg 16 53 _ fun _ _ ak aR=>qym (k_parts aR (hr2.ext (ax.t (aK.t ak))) xq) ?_)))
 rintro _ u18 ao ⟨ah,ae,z17,D17,rfl,ap,ac,an,am,aE⟩
 refine zza 14 (.v (.tuple #[ah.v,ae.v])) (zza 17 (.v (ah.v)) (zza 18 (.v (ae.v)) (zzk 7 ⟨26,[.bool false,qyn]⟩ (zzk 8 ⟨26,[.bool false,qyn]⟩ (zzj ⟨26,ah.cs⟩ ty26 ?_)))))
 refine zzj ⟨26,ae.cs⟩ ty26 ?_
 refine zzb (zzd (zzz [0,0,3,0,0,31,63,0,0,511,1023,2047] [(0,[]),(1,[]),(3,[]),(4,[]),(7,[]),(8,[]),(2,[]),(5,[]),(6,[]),(9,[]),(10,[]),(11,[])] xj xj (zzi 19 (.v (ai.v)) ty26 zze (zzi 20 (.v (ae.v)) ty26 zze (zzi 22 (.v (ah.v)) ty26 zze (zzi 23 (.v (ad.v)) ty26 zze (zzi 26 (.v (ad.v)) ty26 zze (zzi 27 (.v (ae.v)) ty26 zze (zzg 21 55 _ fun _ _ aa aH=>qym (k_riMul aH (au.ext (ak.t (ao.t aa))) (ac.ext aa).raw xq xq) ?_)))))))))
 rintro _ u24 ag ⟨i22,rfl,aO⟩
 refine zzg 24 55 _ fun _ _ af aQ=>qym (k_riMul aQ (ap.ext (aa.t (ag.t af))) (ab.ext (ak.t (ao.t (aa.t (ag.t af))))).raw xq xq) ?_
 rintro _ u30 av ⟨i28,rfl,aF⟩
 refine zzg 25 56 _ fun _ _ aj aD=>qym (k_riAdd aD (aO.ext (af.t (av.t aj))).raw (aF.ext aj).raw xq xq) ?_
 rintro _ u36 ay ⟨i34,rfl,aN⟩
 refine zzg 28 55 _ fun _ _ ar aL=>qym (k_riMul aL (ab.ext (ak.t (ao.t (aa.t (ag.t (af.t (av.t (aj.t (ay.t ar))))))))).raw (ac.ext (aa.t (ag.t (af.t (av.t (aj.t (ay.t ar))))))).raw xq xq) ?_
 rintro _ u42 aM ⟨i40,rfl,aC⟩
 refine zzg 29 20 _ fun _ _ aA aI=>qym (k_reduce aI (aN.ext (ar.t (aM.t aA))).raw (aC.ext aA).raw xq xq) ?_
 rintro _ u48 g49 ⟨al,rfl,aJ⟩
 refine zzj ⟨28,al.cs⟩ ty28 ?_
 refine zzc 30 [(4,.adr 4 0)] [(4,⟨28,al.cs⟩)] (zzo (ret0 [al.v] ⟨zzr ty28 zze,trivial⟩ fun u51 aP=>?_))
 refine ⟨al,rfl,RatN.more (K:=(max (max (K+L) (L+K)+1) (K+L)+1)) ?_ xq⟩
 rw[aw,am,← add_div2 aq an]
 exact (aJ.ext aP)
theorem k_rqSub {u w:World} {r1:RL} {x:Rat} {K:Nat} {r2:RL} {y:Rat} {L:Nat} (d:Dat u w) (hr1:RatV u r1 x K) (hr2:RatV u r2 y L) (hK:K≤100000000) (hL:L≤100000000):qyc 19 #[r1.v,r2.v] w (Post u w fun v u'=>∃r:RL,v=r.v∧RatN u' r (x - y) (K+L+2)):=by
 refine zzm Tryz.func19 rfl Tryz.ntmps19 Tryz.results19 d ?_
 refine sq9 (zzk 2 ⟨28,r1.cs⟩ (zzk 3 ⟨28,r2.cs⟩ (zzk 4 ⟨28,zw3⟩ (zzb (zzd (zzz [0,0,2,7,15] [(0,[]),(1,[]),(2,[]),(3,[]),(4,[])] xj xj (zzi 5 (.v (r1.v)) ty28 zze (zzi 6 (.v (r2.v)) ty28 zze (zzg 7 59 _ fun _ _ ac ad=>qym (k_rqNeg ad (hr2.ext ac) xq) ?_)))))))))
 rintro _ u14 ag ⟨r12,rfl,af⟩
 refine zzg 8 17 _ fun _ _ ab ae=>qym (k_rqAdd ae (hr1.ext (ac.t (ag.t ab))) (af.ext ab).raw xq xq) ?_
 rintro _ u20 g21 ⟨aa,rfl,ai⟩
 refine zzj ⟨28,aa.cs⟩ ty28 ?_
 refine zzb (zzo (ret0 [aa.v] ⟨zzr ty28 zze,trivial⟩ fun u23 ah=>?_))
 refine ⟨aa,rfl,RatN.more (K:=(K+L+2)) ?_ xq⟩
 rw[Rat.sub_eq_add_neg]
 exact (ai.ext ah)
theorem k_rqMul {u w:World} {r1:RL} {x:Rat} {K:Nat} {r2:RL} {y:Rat} {L:Nat} (d:Dat u w) (hr1:RatV u r1 x K) (hr2:RatV u r2 y L) (hK:K≤100000000) (hL:L≤100000000):qyc 15 #[r1.v,r2.v] w (Post u w fun v u'=>∃r:RL,v=r.v∧RatN u' r (x*y) (K+L+1)):=by
 refine zzm Tryz.func15 rfl Tryz.ntmps15 Tryz.results15 d ?_
 refine sq9 (zzk 2 ⟨28,r1.cs⟩ (zzk 3 ⟨28,r2.cs⟩ (zzk 4 ⟨28,zw3⟩ (zzb (sq9 (zzi 10 (.v (r1.v)) ty28 zze (zzg 11 53 _ fun _ _ ap aA=>qym (k_parts aA (hr1.ext ap) xq) ?_)))))))
 rintro _ u13 aD ⟨ab,ad,z12,D12,rfl,al,ai,aC,an,av⟩
 refine zza 9 (.v (.tuple #[ab.v,ad.v])) (zza 12 (.v (ab.v)) (zza 13 (.v (ad.v)) (zzk 5 ⟨26,[.bool false,qyn]⟩ (zzk 6 ⟨26,[.bool false,qyn]⟩ (zzj ⟨26,ab.cs⟩ ty26 ?_)))))
 refine zzj ⟨26,ad.cs⟩ ty26 ?_
 refine zzb (sq9 (zzi 15 (.v (r2.v)) ty28 zze (zzg 16 53 _ fun _ _ ak aJ=>qym (k_parts aJ (hr2.ext (ap.t (aD.t ak))) xq) ?_)))
 rintro _ u18 ao ⟨aa,ae,z17,D17,rfl,ah,aj,au,ag,ax⟩
 refine zza 14 (.v (.tuple #[aa.v,ae.v])) (zza 17 (.v (aa.v)) (zza 18 (.v (ae.v)) (zzk 7 ⟨26,[.bool false,qyn]⟩ (zzk 8 ⟨26,[.bool false,qyn]⟩ (zzj ⟨26,aa.cs⟩ ty26 ?_)))))
 refine zzj ⟨26,ae.cs⟩ ty26 ?_
 refine zzb (zzd (zzz [0,0,3,0,0,31,63,127] [(0,[]),(1,[]),(3,[]),(4,[]),(2,[]),(5,[]),(6,[]),(7,[])] xj xj (zzi 19 (.v (ab.v)) ty26 zze (zzi 20 (.v (aa.v)) ty26 zze (zzi 22 (.v (ad.v)) ty26 zze (zzi 23 (.v (ae.v)) ty26 zze (zzg 21 55 _ fun _ _ ac aB=>qym (k_riMul aB (al.ext (ak.t (ao.t ac))) (ah.ext ac) xq xq) ?_)))))))
 rintro _ u24 aq ⟨i22,rfl,aH⟩
 refine zzg 24 55 _ fun _ _ am aI=>qym (k_riMul aI (ai.ext (ak.t (ao.t (ac.t (aq.t am))))).raw (aj.ext (ac.t (aq.t am))).raw xq xq) ?_
 rintro _ u30 aF ⟨i28,rfl,ay⟩
 refine zzg 25 20 _ fun _ _ ar aw=>qym (k_reduce aw (aH.ext (am.t (aF.t ar))).raw (ay.ext ar).raw xq xq) ?_
 rintro _ u36 g37 ⟨af,rfl,aG⟩
 refine zzj ⟨28,af.cs⟩ ty28 ?_
 refine zzb (zzo (ret0 [af.v] ⟨zzr ty28 zze,trivial⟩ fun u39 aE=>?_))
 refine ⟨af,rfl,RatN.more (K:=(max (K+L) (K+L)+1)) ?_ xq⟩
 rw[an,ag,← mul_div2]
 exact (aG.ext aE)
theorem k_rqMin {u w:World} {r1:RL} {x:Rat} {K:Nat} {r2:RL} {y:Rat} {L:Nat} (d:Dat u w) (hr1:RatV u r1 x K) (hr2:RatV u r2 y L) (hK:K≤100000000) (hL:L≤100000000):qyc 161 #[r1.v,r2.v] w (Post u w fun v u'=>∃r:RL,v=r.v∧RatN u' r (Nt.lo x y) (max K L)):=by
 refine zzm Tryz.func161 rfl Tryz.ntmps161 Tryz.results161 d ?_
 refine sq9 (zzk 2 ⟨28,r1.cs⟩ (zzk 3 ⟨28,r2.cs⟩ (zzk 4 ⟨28,zw3⟩ (zzb (zzd (sq9 (zzi 5 (.v (r2.v)) ty28 zze (zzi 6 (.v (r1.v)) ty28 zze (zzg 7 114 _ fun _ _ ab af=>qym (k_rqLess af (hr2.ext ab) (hr1.ext ab) xq xq) ?_)))))))))
 rintro _ u12 ae rfl
 refine zzb (zzu (b:=decide (y<x)) xj (fun aa=>?_) (fun aa=>?_))
 ·have qhb15:=qyt aa
  refine sq9 (zzi 8 (.v (r2.v)) ty28 zze (zzg 9 57 _ fun _ _ ai am=>qym (k_rqTrim am (hr2.ext (ab.t (ae.t ai))) xq) ?_))
  rintro _ u19 g20 ⟨ad,rfl,aj⟩
  refine zzj ⟨28,ad.cs⟩ ty28 ?_
  refine zzb (zzo (zzw (ret0 [ad.v] ⟨zzr ty28 zze,trivial⟩ fun u22 ah=>?_)))
  refine ⟨ad,rfl,RatN.more (K:=L) ?_ xq⟩
  unfold Nt.lo
  rw[if_pos (qyt aa)]
  exact (aj.ext ah)
 have qhb15:=qyf aa
 refine zzs (zzp ?_)
 refine sq9 (zzi 10 (.v (r1.v)) ty28 zze (zzg 11 57 _ fun _ _ an ag=>qym (k_rqTrim ag (hr1.ext (ab.t (ae.t an))) xq) ?_))
 rintro _ u27 g28 ⟨ac,rfl,ak⟩
 refine zzj ⟨28,ac.cs⟩ ty28 ?_
 refine zzb (zzo (ret0 [ac.v] ⟨zzr ty28 zze,trivial⟩ fun u30 al=>?_))
 refine ⟨ac,rfl,RatN.more (K:=K) ?_ xq⟩
 unfold Nt.lo
 rw[if_neg (qyf aa)]
 exact (ak.ext al)
theorem k_rqMax {u w:World} {r1:RL} {x:Rat} {K:Nat} {r2:RL} {y:Rat} {L:Nat} (d:Dat u w) (hr1:RatV u r1 x K) (hr2:RatV u r2 y L) (hK:K≤100000000) (hL:L≤100000000):qyc 162 #[r1.v,r2.v] w (Post u w fun v u'=>∃r:RL,v=r.v∧RatN u' r (Nt.hi x y) (max K L)):=by
 refine zzm Tryz.func162 rfl Tryz.ntmps162 Tryz.results162 d ?_
 refine sq9 (zzk 2 ⟨28,r1.cs⟩ (zzk 3 ⟨28,r2.cs⟩ (zzk 4 ⟨28,zw3⟩ (zzb (zzd (sq9 (zzi 5 (.v (r1.v)) ty28 zze (zzi 6 (.v (r2.v)) ty28 zze (zzg 7 114 _ fun _ _ ab af=>qym (k_rqLess af (hr1.ext ab) (hr2.ext ab) xq xq) ?_)))))))))
 rintro _ u12 ae rfl
 refine zzb (zzu (b:=decide (x<y)) xj (fun aa=>?_) (fun aa=>?_))
 ·have qhb15:=qyt aa
  refine sq9 (zzi 8 (.v (r2.v)) ty28 zze (zzg 9 57 _ fun _ _ ai am=>qym (k_rqTrim am (hr2.ext (ab.t (ae.t ai))) xq) ?_))
  rintro _ u19 g20 ⟨ad,rfl,aj⟩
  refine zzj ⟨28,ad.cs⟩ ty28 ?_
  refine zzb (zzo (zzw (ret0 [ad.v] ⟨zzr ty28 zze,trivial⟩ fun u22 ah=>?_)))
  refine ⟨ad,rfl,RatN.more (K:=L) ?_ xq⟩
  unfold Nt.hi
  rw[if_pos (qyt aa)]
  exact (aj.ext ah)
 have qhb15:=qyf aa
 refine zzs (zzp ?_)
 refine sq9 (zzi 10 (.v (r1.v)) ty28 zze (zzg 11 57 _ fun _ _ an ag=>qym (k_rqTrim ag (hr1.ext (ab.t (ae.t an))) xq) ?_))
 rintro _ u27 g28 ⟨ac,rfl,ak⟩
 refine zzj ⟨28,ac.cs⟩ ty28 ?_
 refine zzb (zzo (ret0 [ac.v] ⟨zzr ty28 zze,trivial⟩ fun u30 al=>?_))
 refine ⟨ac,rfl,RatN.more (K:=K) ?_ xq⟩
 unfold Nt.hi
 rw[if_neg (qyf aa)]
 exact (ak.ext al)
def DivQ (x y:Rat) (K:Nat) (v:Value) (u:World):Prop:=(v=.tuple #[.agg #[.bool false,qyn,qyn],.int .i64 3]∧y=0)∨(y≠0∧∃r:RL,v=.tuple #[r.v,.int .i64 0]∧RatN u r (x / y) K)
theorem k_rqDiv {u w:World} {r1:RL} {x:Rat} {K:Nat} {r2:RL} {y:Rat} {L:Nat} (d:Dat u w) (hr1:RatV u r1 x K) (hr2:RatV u r2 y L) (hK:K≤100000000) (hL:L≤100000000):qyc 36 #[r1.v,r2.v] w (Post u w fun v u'=>DivQ x y (K+L+1) v u'):=by
 refine zzm Tryz.func36 rfl Tryz.ntmps36 Tryz.results36 d ?_
 refine sq9 (zzk 2 ⟨28,r1.cs⟩ (zzk 3 ⟨28,r2.cs⟩ (zzk 4 ⟨28,zw3⟩ (zza 5 (zI 0) (zzb (sq9 (zzi 11 (.v (r1.v)) ty28 zze (zzg 12 53 _ fun _ _ ax aG=>qym (k_parts aG (hr1.ext ax) xq) ?_))))))))
 rintro _ u13 aK ⟨ag,aj,z12,D12,rfl,au,ao,an,av,aD⟩
 refine zza 10 (.v (.tuple #[ag.v,aj.v])) (zza 13 (.v (ag.v)) (zza 14 (.v (aj.v)) (zzk 6 ⟨26,[.bool false,qyn]⟩ (zzk 7 ⟨26,[.bool false,qyn]⟩ (zzj ⟨26,ag.cs⟩ ty26 ?_)))))
 refine zzj ⟨26,aj.cs⟩ ty26 ?_
 refine zzb (sq9 (zzi 16 (.v (r2.v)) ty28 zze (zzg 17 53 _ fun _ _ ar aO=>qym (k_parts aO (hr2.ext (ax.t (aK.t ar))) xq) ?_)))
 rintro _ u18 aw ⟨ad,ak,am,D17,rfl,ac,aq,al,aa,aF⟩
 refine zza 15 (.v (.tuple #[ad.v,ak.v])) (zza 18 (.v (ad.v)) (zza 19 (.v (ak.v)) (zzk 8 ⟨26,[.bool false,qyn]⟩ (zzk 9 ⟨26,[.bool false,qyn]⟩ (zzj ⟨26,ad.cs⟩ ty26 ?_)))))
 refine zzj ⟨26,ak.cs⟩ ty26 ?_
 refine zzb (zzd (sq9 (zzi 20 (.v (ad.v)) ty26 zze (zzg 21 60 _ fun _ _ ae aH=>qym (k_riSign aH (ac.ext ae) xq) ?_))))
 rintro _ u22 ah rfl
 refine zza 22 (zB ((cmpS am 0)==0)) (zzb (zzu (b:=(cmpS am 0)==0) xj (fun ab=>?_) (fun ab=>?_)))
 ·refine sq9 (zza 23 (.v (.agg #[.bool false,qyn,qyn])) (zzj ⟨28,zw3⟩ ty28 ?_))
  refine zza 5 (zI 3) (zzb (zzo (zzw (ret0 [.agg #[.bool false,qyn,qyn],.int .i64 3] ⟨zzr ty28 zze,zzq,trivial⟩ fun u26 e27=>?_))))
  left
  exact ⟨rfl,by rw[aa,cmp_eq0 ab,Rat.zero_mkRat]⟩
 have aA:am≠0:=cmp_ne0 ab
 refine zzs (zzp ?_)
 refine zzd (zzz [0,0,3,0,0,31,63,127,255] [(0,[]),(1,[]),(3,[]),(4,[]),(2,[]),(5,[]),(6,[]),(7,[]),(8,[])] xj xj (zzi 24 (.v (ag.v)) ty26 zze (zzi 25 (.v (ak.v)) ty26 zze (zzi 27 (.v (aj.v)) ty26 zze (zzi 28 (.v (ad.v)) ty26 zze (zzg 26 55 _ fun _ _ ai aI=>qym (k_riMul aI (au.ext (ar.t (aw.t (ae.t (ah.t ai))))) (aq.ext (ae.t (ah.t ai))).raw xq xq) ?_))))))
 rintro _ u31 aB ⟨i29,rfl,aE⟩
 refine zzg 29 55 _ fun _ _ ap aN=>qym (k_riMul aN (ao.ext (ar.t (aw.t (ae.t (ah.t (ai.t (aB.t ap))))))).raw (ac.ext (ae.t (ah.t (ai.t (aB.t ap))))) xq xq) ?_
 rintro _ u37 aJ ⟨i35,rfl,aL⟩
 refine zzg 30 20 _ fun _ _ ay aP=>qym (k_reduce aP (aE.ext (ap.t (aJ.t ay))).raw (aL.ext ay).raw xq xq) ?_
 rintro _ u43 g44 ⟨af,rfl,aC⟩
 refine zzj ⟨28,af.cs⟩ ty28 ?_
 refine zza 5 (zI 0) (zzc 31 [(4,.adr 4 0),(5,zI 0)] [(4,⟨28,af.cs⟩)] (zzo (ret0 [af.v,.int .i64 0] ⟨zzr ty28 zze,zzq,trivial⟩ fun u46 aM=>?_)))
 right
 refine ⟨?_,af,rfl,RatN.more (K:=(max (K+L) (K+L)+1)) ?_ xq⟩
 ·rw[aa];exact (Rat.mkRat_ne_zero xq).2 aA
 rw[av,aa,← quo_mk an al aA]
 exact (aC.ext aM)
theorem k_rqOver {u w:World} {r1:RL} {x:Rat} {K:Nat} {r2:RL} {y:Rat} {L:Nat} (d:Dat u w) (hr1:RatV u r1 x K) (hr2:RatV u r2 y L) (hK:K≤100000000) (hL:L≤100000000):qyc 98 #[r1.v,r2.v] w (Post u w fun v u'=>∃r:RL,v=r.v∧RatN u' r (x / y) (K+L+2)):=by
 refine zzm Tryz.func98 rfl Tryz.ntmps98 Tryz.results98 d ?_
 refine sq9 (zzk 2 ⟨28,r1.cs⟩ (zzk 3 ⟨28,r2.cs⟩ (zzk 4 ⟨28,zw3⟩ (zzb (sq9 (zzi 8 (.v (r1.v)) ty28 zze (zzi 9 (.v (r2.v)) ty28 zze (zzg 10 36 _ fun _ _ ad af=>qym (k_rqDiv af (hr1.ext ad) (hr2.ext ad) xq xq) ?_))))))))
 rintro _ u15 g16 (⟨rfl,ab⟩ | ⟨ab,aa,rfl,ag⟩)
 ·skip
  refine zza 7 (.v (.tuple #[.agg #[.bool false,qyn,qyn],.int .i64 3])) (zza 11 (.v (.agg #[.bool false,qyn,qyn])) (zza 12 (zI 3) (zzk 5 ⟨28,zw3⟩ (zzj ⟨28,zw3⟩ ty28 ?_))))
  refine zza 6 (zI 3) (zzb (zzd (sq9 (zza 13 (zI 3) (zza 14 (zB true) (zzb (zyr xj (sq9 (zzg 15 11 _ fun _ _ _ ae=>qym (k_rqOf ae (z:=0) xq xq) ?_)))))))))
  rintro _ u21 g22 ⟨ac,rfl,ai⟩
  refine zzj ⟨28,ac.cs⟩ ty28 ?_
  refine zzb (zzo (zzw (ret0 [ac.v] ⟨zzr ty28 zze,trivial⟩ fun u24 ah=>?_)))
  refine ⟨ac,rfl,RatN.more (K:=2) ?_ xq⟩
  rw[ab,Rat.div_def,Rat.inv_zero,Rat.mul_zero]
  exact (ai.ext ah)
 refine zza 7 (.v (.tuple #[aa.v,.int .i64 0])) (zza 11 (.v (aa.v)) (zza 12 (zI 0) (zzk 5 ⟨28,zw3⟩ (zzj ⟨28,aa.cs⟩ ty28 ?_))))
 refine zza 6 (zI 0) (zzb (zzd (sq9 (zza 13 (zI 0) (zza 14 (zB false) (zzb (zys xj (zzs (zzp ?_)))))))))
 refine sq9 (zzi 16 (.v (aa.v)) ty28 zze (zzj ⟨28,aa.cs⟩ ty28 ?_))
 refine zzb (zzo (ret0 [aa.v] ⟨zzr ty28 zze,trivial⟩ fun u26 aj=>?_))
 refine ⟨aa,rfl,RatN.more (K:=(K+L+1)) ?_ xq⟩
 exact (ag.ext aj)
theorem k_signed {u w:World} {s:Bool} {x:Sl} {N K:Nat} (d:Dat u w) (h:NatN u x N K):qyc 128 #[.bool s,x.v] w (Post u w fun v u'=>∃i:IL,v=i.v∧IntN u' i (Nt.sg s N) K):=by
 refine zzm Tryz.func128 rfl Tryz.ntmps128 Tryz.results128 d ?_
 refine sq9 (zzk 4 ⟨26,[.bool false,qyn]⟩ (zzb (sq9 (zza 5 (zB s) ?_))))
 rcases Bool.eq_false_or_eq_true s with hs11 | hs11
 ·refine qbi 6 hs11 (zza 7 (.v (x.v)) ?_ (hw:=w1 1 true 6))
  refine zza 8 (zI x.n) ?_ (hw:=w1 1 true 6)
  refine zza 9 (zB (decide ((0:Int)<(x.n:Int)))) ?_ (hw:=w1 1 true 6)
  refine zza 10 (zB (decide ((0:Int)<(x.n:Int)))) (zza 11 (.v (x.v)) (zza 12 (.v (.agg #[.bool (decide ((0:Int)<(x.n:Int))),x.v])) (zzj ⟨26,[.bool (decide ((0:Int)<(x.n:Int))),x.v]⟩ ty26 ?_)))
  refine zzb (zzo (ret0 [.agg #[.bool (decide ((0:Int)<(x.n:Int))),.slice x.a x.n x.c]] ⟨zzr ty26 zze,trivial⟩ fun u12 ab=>?_))
  rw[hs11]
  exact ⟨⟨_,x⟩,rfl,signed_int (s:=true) (h.ext ab)⟩
 refine qbi 6 hs11 (zzn 7 (uw 1 true false 6) (zzn 8 (uw 1 true false 6) (zzn 9 (uw 1 true false 6) (zza 10 (zB false) (zza 11 (.v (x.v)) (zza 12 (.v (.agg #[.bool false,x.v])) (zzj ⟨26,[.bool false,x.v]⟩ ty26 ?_)))))))
 refine zzb (zzo (ret0 [.agg #[.bool false,.slice x.a x.n x.c]] ⟨zzr ty26 zze,trivial⟩ fun u14 aa=>?_))
 rw[hs11]
 exact ⟨⟨_,x⟩,rfl,signed_int (s:=false) (h.ext aa)⟩
theorem k_intTrim {u w:World} {i1:IL} {zN:Int} {K:Nat} (d:Dat u w) (hi1:IntV u i1 zN K) (hK:K≤500000000):qyc 130 #[i1.v] w (Post u w fun v u'=>∃i:IL,v=i.v∧IntN u' i zN K):=by
 obtain ⟨N,hN,hzN⟩:=hi1
 refine zzm Tryz.func130 rfl Tryz.ntmps130 Tryz.results130 d ?_
 refine sq9 (zzk 1 ⟨26,i1.cs⟩ (zzk 2 ⟨26,[.bool false,qyn]⟩ (zzb (zzd (zzz [0,1,0,4,12,31,63] [(0,[]),(1,[]),(2,[]),(3,[]),(4,[]),(5,[]),(6,[])] xj xj (zza 3 (.adr 1 0) (zzi 4 (zB i1.s) ty4 zzl (zza 5 (.adr 1 1) (zzi 6 (.v (i1.m.v)) ty24 zzl (zzg 7 129 _ fun _ _ af ab=>qym (k_natTrim ab (hN.ext af) xq) ?_))))))))))
 rintro _ u14 g15 ⟨x12,rfl,ad⟩
 refine zzg 8 128 _ fun _ _ ae ac=>qym (k_signed ac (s:=i1.s) (ad.ext ae)) ?_
 rintro _ u20 g21 ⟨aa,rfl,ah⟩
 refine zzj ⟨26,aa.cs⟩ ty26 ?_
 refine zzb (zzo (ret0 [aa.v] ⟨zzr ty26 zze,trivial⟩ fun u23 ag=>?_))
 refine ⟨aa,rfl,IntN.more (K:=K) ?_ xq⟩
 rw[hzN]
 exact (ah.ext ag)
theorem k_intMul {u w:World} {i1:IL} {zN:Int} {K:Nat} {i2:IL} {zM:Int} {L:Nat} (d:Dat u w) (hi1:IntV u i1 zN K) (hi2:IntV u i2 zM L) (hK:K≤500000000) (hL:L≤500000000):qyc 75 #[i1.v,i2.v] w (Post u w fun v u'=>∃i:IL,v=i.v∧IntN u' i (zN*zM) (K+L)):=by
 obtain ⟨N,hN,hzN⟩:=hi1
 obtain ⟨M,hM,hzM⟩:=hi2
 refine zzm Tryz.func75 rfl Tryz.ntmps75 Tryz.results75 d ?_
 refine sq9 (zzk 2 ⟨26,i1.cs⟩ (zzk 3 ⟨26,i2.cs⟩ (zzk 4 ⟨26,[.bool false,qyn]⟩ (zzb (zzd (zzz [0,1,0,4,15,0,32,0,128,480,1023,2047] [(0,[]),(1,[]),(2,[]),(3,[]),(4,[]),(5,[]),(6,[]),(7,[]),(8,[]),(9,[]),(10,[]),(11,[])] xj xj (zza 5 (.adr 2 0) (zzi 6 (zB i1.s) ty4 zzl (zza 7 (.adr 3 0) (zzi 8 (zB i2.s) ty4 zzl (zza 9 (zB (!(i1.s==i2.s))) ?_)))))))))))
 refine zza 10 (.adr 2 1) (zzi 11 (.v (i1.m.v)) ty24 zzl (zza 12 (.adr 3 1) (zzi 13 (.v (i2.m.v)) ty24 zzl (zzg 14 81 _ fun _ _ ab ac=>qym (k_natMul ac (hN.ext ab) (hM.ext ab) xq xq) ?_))))
 rintro _ u14 g15 ⟨x12,rfl,ae⟩
 refine zzg 15 128 _ fun _ _ af ad=>qym (k_signed ad (s := !(i1.s==i2.s)) (ae.ext af)) ?_
 rintro _ u20 g21 ⟨aa,rfl,ah⟩
 refine zzj ⟨26,aa.cs⟩ ty26 ?_
 refine zzb (zzo (ret0 [aa.v] ⟨zzr ty26 zze,trivial⟩ fun u23 ag=>?_))
 refine ⟨aa,rfl,IntN.more (K:=(K+L)) ?_ xq⟩
 rw[hzN,hzM,← sg_mul]
 exact (ah.ext ag)
theorem k_intAdd {u w:World} {i1:IL} {zN:Int} {K:Nat} {i2:IL} {zM:Int} {L:Nat} (d:Dat u w) (hi1:IntV u i1 zN K) (hi2:IntV u i2 zM L) (hK:K≤500000000) (hL:L≤500000000):qyc 79 #[i1.v,i2.v] w (Post u w fun v u'=>∃i:IL,v=i.v∧IntN u' i (zN+zM) (max K L+1)):=by
 obtain ⟨N,hN,hzN⟩:=hi1
 obtain ⟨M,hM,hzM⟩:=hi2
 refine zzm Tryz.func79 rfl Tryz.ntmps79 Tryz.results79 d ?_
 refine sq9 (zzk 2 ⟨26,i1.cs⟩ (zzk 3 ⟨26,i2.cs⟩ (zzk 4 ⟨26,[.bool false,qyn]⟩ (zzb (zzd (sq9 (zza 5 (.adr 2 0) (zzi 6 (zB i1.s) ty4 zzl (zza 7 (.adr 3 0) (zzi 8 (zB i2.s) ty4 zzl (zza 9 (zB (i1.s==i2.s)) ?_)))))))))))
 refine zzb (zzu (b:=i1.s==i2.s) xj (fun aa=>?_) (fun aa=>?_))
 ·refine zzd (zzz [0,1,0,4,0,16,60,127,255] [(0,[]),(1,[]),(2,[]),(3,[]),(4,[]),(5,[]),(6,[]),(7,[]),(8,[])] xj xj (zza 10 (.adr 2 0) (zzi 11 (zB i1.s) ty4 zzl (zza 12 (.adr 2 1) (zzi 13 (.v (i1.m.v)) ty24 zzl (zza 14 (.adr 3 1) (zzi 15 (.v (i2.m.v)) ty24 zzl (zzg 16 133 _ fun _ _ ah aD=>qym (k_natAdd aD (hN.ext ah) (hM.ext ah) xq xq) ?_))))))))
  rintro _ u15 g16 ⟨x13,rfl,av⟩
  refine zzg 17 128 _ fun _ _ aE an=>qym (k_signed an (s:=i1.s) (av.ext aE)) ?_
  rintro _ u21 g22 ⟨ae,rfl,ay⟩
  refine zzj ⟨26,ae.cs⟩ ty26 ?_
  refine zzb (zzo (zzw (ret0 [ae.v] ⟨zzr ty26 zze,trivial⟩ fun u24 al=>?_)))
  refine ⟨ae,rfl,IntN.more (K:=(max K L+1)) ?_ xq⟩
  rw[hzN,hzM,← sg_add1 N M aa]
  exact (ay.ext al)
 refine zzs (zzp ?_)
 refine zzd (sq9 (zza 18 (.adr 2 1) (zzi 19 (.v (i1.m.v)) ty24 zzl (zza 20 (.adr 3 1) (zzi 21 (.v (i2.m.v)) ty24 zzl (zzg 22 80 _ fun _ _ ac ao=>qym (k_natCompare ao (hN.ext ac) (hM.ext ac)) ?_))))))
 rintro _ u27 ad rfl
 refine zza 23 (zB ((cmpS N M)==(-1))) (zzb (zzu (b:=(cmpS N M)==(-1)) xj (fun ab=>?_) (fun ab=>?_)))
 ·refine zzd (zzz [0,1,0,4,0,16,60,127,255] [(0,[]),(1,[]),(2,[]),(3,[]),(4,[]),(5,[]),(6,[]),(7,[]),(8,[])] xj xj (zza 24 (.adr 3 0) (zzi 25 (zB i2.s) ty4 zzl (zza 26 (.adr 3 1) (zzi 27 (.v (i2.m.v)) ty24 zzl (zza 28 (.adr 2 1) (zzi 29 (.v (i1.m.v)) ty24 zzl (zzg 30 134 _ fun _ _ aj aw=>qym (k_natSub aw (hM.ext (ac.t (ad.t aj))) (hN.ext (ac.t (ad.t aj))) xq xq) ?_))))))))
  rintro _ u34 g35 ⟨x32,rfl,ax⟩
  refine zzg 31 128 _ fun _ _ aB am=>qym (k_signed am (s:=i2.s) (ax.ext aB)) ?_
  rintro _ u40 g41 ⟨ag,rfl,ak⟩
  refine zzj ⟨26,ag.cs⟩ ty26 ?_
  refine zzb (zzo (zzw (ret0 [ag.v] ⟨zzr ty26 zze,trivial⟩ fun u43 aq=>?_)))
  refine ⟨ag,rfl,IntN.more (K:=L) ?_ xq⟩
  rw[hzN,hzM,← sg_add2 N M aa ab]
  exact (ak.ext aq)
 refine zzs (zzp ?_)
 refine zzd (zzz [0,1,0,4,0,16,60,127,255] [(0,[]),(1,[]),(2,[]),(3,[]),(4,[]),(5,[]),(6,[]),(7,[]),(8,[])] xj xj (zza 32 (.adr 2 0) (zzi 33 (zB i1.s) ty4 zzl (zza 34 (.adr 2 1) (zzi 35 (.v (i1.m.v)) ty24 zzl (zza 36 (.adr 3 1) (zzi 37 (.v (i2.m.v)) ty24 zzl (zzg 38 134 _ fun _ _ ai ap=>qym (k_natSub ap (hN.ext (ac.t (ad.t ai))) (hM.ext (ac.t (ad.t ai))) xq xq) ?_))))))))
 rintro _ u48 g49 ⟨x46,rfl,ar⟩
 refine zzg 39 128 _ fun _ _ aF aC=>qym (k_signed aC (s:=i1.s) (ar.ext aF)) ?_
 rintro _ u54 g55 ⟨af,rfl,aA⟩
 refine zzj ⟨26,af.cs⟩ ty26 ?_
 refine zzb (zzo (ret0 [af.v] ⟨zzr ty26 zze,trivial⟩ fun u57 au=>?_))
 refine ⟨af,rfl,IntN.more (K:=K) ?_ xq⟩
 rw[hzN,hzM,← sg_add3 N M aa ab]
 exact (aA.ext au)
theorem k_intSign {u w:World} {i1:IL} {zN:Int} {K:Nat} (d:Dat u w) (hi1:IntV u i1 zN K)  : qyc 74 #[i1.v] w (Post u w fun v u'=>v=.int .i64 (cmpS zN 0)):=by
 obtain ⟨N,hN,hzN⟩:=hi1
 refine zzm Tryz.func74 rfl Tryz.ntmps74 Tryz.results74 d ?_
 refine sq9 (zzk 1 ⟨26,i1.cs⟩ (zza 2 (zI 0) (zzb (zzd (zzt (sq9 (zza 4 (.adr 1 1) (zzi 5 (.v (i1.m.v)) ty24 zzl (zzg 6 80 _ fun _ _ ad ac=>qym (k_natCompare ac (hN.ext ad) (nat_nil _ 1)) ?_)))))))))
 rintro _ u12 g13 rfl
 refine zza 7 (zB ((cmpS N 0)==0)) (zza 3 (zB ((cmpS N 0)==0)) (zzb (zzu (b:=(cmpS N 0)==0) xj (fun ab=>?_) (fun ab=>?_))))
 ·refine sq9 (zza 2 (zI 0) (zzb (zzo (zyu (zzw (ret0 [.int .i64 0] ⟨zzq,trivial⟩ fun u16 e17=>?_))))))
  show _=_
  rw[hzN,sg_cmp0,if_pos ab]
  rfl
 refine sq9 (zza 9 (.adr 1 0) (zzi 10 (zB i1.s) ty4 zzl (zza 8 (zB i1.s) (zzb (zzu (b:=i1.s) xj (fun aa=>?_) (fun aa=>?_))))))
 ·replace aa:i1.s=true:=aa
  refine sq9 (zza 2 (zI (-1)) (zzb (zzo (zyu (zzw (ret0 [.int .i64 (-1)] ⟨zzq,trivial⟩ fun u19 e20=>?_))))))
  show _=_
  rw[hzN,sg_cmp0,if_neg (ne_true_of_eq_false ab),if_pos aa]
  rfl
 replace aa:i1.s=false:=aa
 refine zzs (zzp ?_)
 refine sq9 (zza 2 (zI 1) (zzb (zzo (ret0 [.int .i64 1] ⟨zzq,trivial⟩ fun u21 e22=>?_))))
 show _=_
 rw[hzN,sg_cmp0,if_neg (ne_true_of_eq_false ab),if_neg (ne_true_of_eq_false aa)]
 rfl
namespace Nt
theorem cmp_sg (s t:Bool) (N M:Nat):cmpS (sg s N) (sg t M)=if decide (cmpS (sg s N) 0<cmpS (sg t M) 0)=true then -1 else if decide (cmpS (sg t M) 0<cmpS (sg s N) 0)=true then 1 else if (cmpS (sg s N) 0 == -1)=true then cmpS (M:Int) (N:Int) else cmpS (N:Int) (M:Int):=by
 rcases cmp_range (sg s N) 0 with ⟨e,h⟩ | ⟨e,h⟩ | ⟨e,h⟩<;>rcases cmp_range (sg t M) 0 with ⟨e',h'⟩ | ⟨e',h'⟩ | ⟨e',h'⟩<;>rw[e,e']<;>simp
 ·unfold sg at *;cases s<;>cases t<;>simp at h h' ⊢ <;> unfold cmpS<;>(repeat' split)<;>first | rfl | omega
 ·exact cmp_lt xq
 ·exact cmp_lt xq
 ·exact cmp_gt xq
 ·rw[h,h'];unfold sg at *;cases s<;>cases t<;>simp at h h' <;> rw[h,h']<;>rfl
 ·exact cmp_lt xq
 ·exact cmp_gt xq
 ·exact cmp_gt xq
 unfold sg at *;cases s<;>cases t<;>simp at h h' ⊢ <;> first | rfl | omega
end Nt
theorem k_intCompare {u w:World} {i1:IL} {zN:Int} {K:Nat} {i2:IL} {zM:Int} {L:Nat} (d:Dat u w) (hi1:IntV u i1 zN K) (hi2:IntV u i2 zM L)  : qyc 167 #[i1.v,i2.v] w (Post u w fun v u'=>v=.int .i64 (cmpS zN zM)):=by
 obtain ⟨N,hN,hzN⟩:=hi1
 obtain ⟨M,hM,hzM⟩:=hi2
 refine zzm Tryz.func167 rfl Tryz.ntmps167 Tryz.results167 d ?_
 refine sq9 (zzk 2 ⟨26,i1.cs⟩ (zzk 3 ⟨26,i2.cs⟩ (zza 4 (zI 0) (zzb (zzd (zzz [0,1,0,7,15,31] [(0,[]),(2,[]),(1,[]),(3,[]),(4,[]),(5,[])] xj xj (zzi 7 (.v (i1.v)) ty26 zze (zzi 9 (.v (i2.v)) ty26 zze (zzg 8 74 _ fun _ _ ad al=>qym (k_intSign al (IntV.same (s:=i1.s) (hN.ext ad))) ?_)))))))))
 rintro _ u12 ae rfl
 refine zzg 10 74 _ fun _ _ af am=>qym (k_intSign am (IntV.same (s:=i2.s) (hM.ext (ad.t (ae.t af))))) ?_
 rintro _ u16 ag rfl
 refine zza 5 (zI (cmpS (Nt.sg i1.s N) 0)) (zza 6 (zI (cmpS (Nt.sg i2.s M) 0)) (zzb (zzd (zzt (sq9 (zza 12 (zI (cmpS (Nt.sg i1.s N) 0)) (zza 13 (zI (cmpS (Nt.sg i2.s M) 0)) (zza 14 (zB (decide ((cmpS (Nt.sg i1.s N) 0)<(cmpS (Nt.sg i2.s M) 0)))) (zza 11 (zB (decide ((cmpS (Nt.sg i1.s N) 0)<(cmpS (Nt.sg i2.s M) 0)))) (zzb (zzu (b:=decide ((cmpS (Nt.sg i1.s N) 0)<(cmpS (Nt.sg i2.s M) 0))) xj (fun aa=>?_) (fun aa=>?_))))))))))))
 ·have qhb19:=qyt aa
  refine sq9 (zza 4 (zI (-1)) (zzb (zzo (zyu (zzw (ret0 [.int .i64 (-1)] ⟨zzq,trivial⟩ fun u20 e21=>?_))))))
  show _=_
  rw[hzN,hzM,cmp_sg,if_pos aa]
  rfl
 have qhb19:=qyf aa
 refine sq9 (zza 16 (zI (cmpS (Nt.sg i1.s N) 0)) (zza 17 (zI (cmpS (Nt.sg i2.s M) 0)) (zza 18 (zB (decide ((cmpS (Nt.sg i2.s M) 0)<(cmpS (Nt.sg i1.s N) 0)))) (zza 15 (zB (decide ((cmpS (Nt.sg i2.s M) 0)<(cmpS (Nt.sg i1.s N) 0)))) (zzb (zzu (b:=decide ((cmpS (Nt.sg i2.s M) 0)<(cmpS (Nt.sg i1.s N) 0))) xj (fun ab=>?_) (fun ab=>?_)))))))
 ·have qhb22:=qyt ab
  refine sq9 (zza 4 (zI 1) (zzb (zzo (zyu (zzw (ret0 [.int .i64 1] ⟨zzq,trivial⟩ fun u23 e24=>?_))))))
  show _=_
  rw[hzN,hzM,cmp_sg,if_neg (ne_true_of_eq_false aa),if_pos ab]
  rfl
 have qhb22:=qyf ab
 refine sq9 (zza 20 (zI (cmpS (Nt.sg i1.s N) 0)) (zza 21 (zB ((cmpS (Nt.sg i1.s N) 0)==(-1))) (zza 19 (zB ((cmpS (Nt.sg i1.s N) 0)==(-1))) (zzb (zzu (b:=(cmpS (Nt.sg i1.s N) 0)==(-1)) xj (fun ac=>?_) (fun ac=>?_))))))
 ·refine sq9 (zza 22 (.adr 3 1) (zzi 23 (.v (i2.m.v)) ty24 zzl (zza 24 (.adr 2 1) (zzi 25 (.v (i1.m.v)) ty24 zzl (zzg 26 80 _ fun _ _ ai ak=>qym (k_natCompare ak (hM.ext (ad.t (ae.t (af.t (ag.t ai))))) (hN.ext (ad.t (ae.t (af.t (ag.t ai)))))) ?_)))))
  rintro _ u27 g28 rfl
  refine zza 4 (zI (cmpS M N)) (zzb (zzo (zyu (zzw (ret0 [.int .i64 (cmpS M N)] ⟨zzq,trivial⟩ fun u30 e31=>?_)))))
  show _=_
  rw[hzN,hzM,cmp_sg,if_neg (ne_true_of_eq_false aa),if_neg (ne_true_of_eq_false ab),if_pos ac]
  rfl
 refine zzs (zzp ?_)
 refine sq9 (zza 27 (.adr 2 1) (zzi 28 (.v (i1.m.v)) ty24 zzl (zza 29 (.adr 3 1) (zzi 30 (.v (i2.m.v)) ty24 zzl (zzg 31 80 _ fun _ _ ah aj=>qym (k_natCompare aj (hN.ext (ad.t (ae.t (af.t (ag.t ah))))) (hM.ext (ad.t (ae.t (af.t (ag.t ah)))))) ?_)))))
 rintro _ u33 g34 rfl
 refine zza 4 (zI (cmpS N M)) (zzb (zzo (ret0 [.int .i64 (cmpS N M)] ⟨zzq,trivial⟩ fun u36 e37=>?_)))
 show _=_
 rw[hzN,hzM,cmp_sg,if_neg (ne_true_of_eq_false aa),if_neg (ne_true_of_eq_false ab),if_neg (ne_true_of_eq_false ac)]
 rfl
theorem k_intOf {u w:World} {z:Int} (d:Dat u w) (h0 : -9223372036854775808≤z) (h1:z≤9223372036854775807):qyc 72 #[.int .i64 z] w (Post u w fun v u'=>∃i:IL,v=i.v∧IntN u' i z 2):=by
 by_cases hneg:z<0
 ·refine zzm Tryz.func72 rfl Tryz.ntmps72 Tryz.results72 d ?_
  refine sq9 (zzk 2 ⟨26,[.bool false,qyn]⟩ (zzb (sq9 (zza 4 (zI z) (zyq 5 (x:=.v (.int .u64 (IntKind.u64.wrap z))) (.v (.int .u64 (z+18446744073709551616))) (by rw[show (IntKind.u64.wrap z)=(z+18446744073709551616) from (by simp[IntKind.wrap,IntKind.bits,IntKind.signed];omega)]) (zza 3 (.v (.int .u64 (z+18446744073709551616))) (zzb (zzd (sq9 (zza 6 (zI z) (zyq 7 (x:=zB (decide (z<0))) (zB true) (by rw[show (decide (z<0))=true from yy]) ?_)))))))))))
  refine zzb (zyr xj (zzf (zza 8 (.v (.int .u64 (z+18446744073709551616))) (zyq 9 (x:=.v (.int .u64 (IntKind.u64.wrap (0 - (z+18446744073709551616))))) (.v (.int .u64 (-z))) (by rw[show (IntKind.u64.wrap (0 - (z+18446744073709551616)))=(-z) from (by simp[IntKind.wrap,IntKind.bits,IntKind.signed];omega)]) (zza 3 (.v (.int .u64 (-z))) (zzb (sq9 (zza 10 (zI z) (zyq 11 (x:=zB (decide (z<0))) (zB true) (by rw[show (decide (z<0))=true from yy]) (zza 12 (.v (.int .u64 (-z))) (zyq 13 (x:=.v (.int .u32 (IntKind.u32.wrap (-z)))) (.v (.int .u32 ((-z)%4294967296))) (by rw[show (IntKind.u32.wrap (-z))=((-z)%4294967296) from (IntKind.wrap_u32 _)]) ?_)))))))))))
  refine zza 14 (.v (.int .u64 (-z))) (zyq 15 (x:=.v (.int .u64 (Int.fdiv (-z) (2^32)))) (.v (.int .u64 ((-z) / 4294967296))) (by rw[show (Int.fdiv (-z) (2^32))=((-z) / 4294967296) from (by rw[Int.fdiv_eq_ediv_of_nonneg _ yq];rfl)]) (zyq 16 (x:=.v (.int .u32 (IntKind.u32.wrap ((-z) / 4294967296)))) (.v (.int .u32 ((-z) / 4294967296))) (by rw[show (IntKind.u32.wrap ((-z) / 4294967296))=((-z) / 4294967296) from (IntWalk.u32_in _ xq)]) (zxx 17 ⟨79,[.int .u32 ((-z)%4294967296),.int .u32 ((-z) / 4294967296)]⟩ 2 (fun ak ar ap ag=>?_))))
  refine zzg 18 129 [.slice (some ⟨ak,0,none⟩) 2 2] ?_
  intro w15 u15 ai ac
  have k20:=k_natTrim ac ((two_data (N:=z.natAbs) ag xq xq xq).ext ai) xq
  with_reducible refine zPm k20 ?_
  rintro _ an al ⟨aj,rfl,ab⟩
  refine zzg 19 128 [.bool true,aj.v] ?_
  intro w21 u21 ae ad
  have k26:=k_signed ad (s:=true) (ab.ext ae)
  with_reducible refine zPm k26 ?_
  rintro _ aq am ⟨aa,rfl,ah⟩
  refine zzj ⟨26,aa.cs⟩ ty26 ?_
  refine zzb (zzo (ret0 [aa.v] ⟨zzr ty26 zze,trivial⟩ fun ao af=>?_))
  refine ⟨aa,rfl,IntN.more (K:=2) ?_ xq⟩
  have e:z=Nt.sg true z.natAbs:=by unfold Nt.sg;simp;omega
  rw[e]
  exact (ah.ext af)
 refine zzm Tryz.func72 rfl Tryz.ntmps72 Tryz.results72 d ?_
 refine sq9 (zzk 2 ⟨26,[.bool false,qyn]⟩ (zzb (sq9 (zza 4 (zI z) (zyq 5 (x:=.v (.int .u64 (IntKind.u64.wrap z))) (.v (.int .u64 (z))) (by rw[show (IntKind.u64.wrap z)=z from (by simp[IntKind.wrap,IntKind.bits,IntKind.signed];omega)]) (zza 3 (.v (.int .u64 z)) (zzb (zzd (sq9 (zza 6 (zI z) (zyq 7 (x:=zB (decide (z<0))) (zB false) (by rw[show (decide (z<0))=false from yy]) ?_)))))))))))
 refine zzb (zys xj (zzs (zzp ?_)))
 refine sq9 (zza 10 (zI z) (zyq 11 (x:=zB (decide (z<0))) (zB false) (by rw[show (decide (z<0))=false from yy]) (zza 12 (.v (.int .u64 z)) (zyq 13 (x:=.v (.int .u32 (IntKind.u32.wrap (z)))) (.v (.int .u32 ((z)%4294967296))) (by rw[show (IntKind.u32.wrap (z))=((z)%4294967296) from (IntKind.wrap_u32 _)]) (zza 14 (.v (.int .u64 z)) (zyq 15 (x:=.v (.int .u64 (Int.fdiv (z) (2^32)))) (.v (.int .u64 ((z) / 4294967296))) (by rw[show (Int.fdiv (z) (2^32))=((z) / 4294967296) from (by rw[Int.fdiv_eq_ediv_of_nonneg _ yq];rfl)]) (zyq 16 (x:=.v (.int .u32 (IntKind.u32.wrap ((z) / 4294967296)))) (.v (.int .u32 ((z) / 4294967296))) (by rw[show (IntKind.u32.wrap ((z) / 4294967296))=((z) / 4294967296) from (IntWalk.u32_in _ xq)]) (zxx 17 ⟨79,[.int .u32 ((z)%4294967296),.int .u32 ((z) / 4294967296)]⟩ 2 (fun ak ar ap ag=>?_)))))))))
 refine zzg 18 129 _ fun _ _ ai ac=>qym (k_natTrim ac ((two_data (N:=z.natAbs) ag xq xq xq).ext ai) xq) ?_
 rintro _ an al ⟨aj,rfl,ab⟩
 refine zzg 19 128 _ fun _ _ ae ad=>qym (k_signed ad (s:=false) (ab.ext ae)) ?_
 rintro _ aq am ⟨aa,rfl,ah⟩
 refine zzj ⟨26,aa.cs⟩ ty26 ?_
 refine zzb (zzo (ret0 [aa.v] ⟨zzr ty26 zze,trivial⟩ fun ao af=>?_))
 refine ⟨aa,rfl,IntN.more (K:=2) ?_ xq⟩
 have e:z=Nt.sg false z.natAbs:=by unfold Nt.sg;simp;omega
 rw[e]
 exact (ah.ext af)
theorem k_natural {u w:World} {x:Sl} (d:Dat u w):qyc 76 #[x.v] w (Post u w fun v _=>v=.agg #[.bool false,x.v]):=by
 refine zzm Tryz.func76 rfl Tryz.ntmps76 Tryz.results76 d ?_
 refine sq9 (zzk 2 ⟨26,[.bool false,qyn]⟩ (zzb (sq9 (zza 3 (.v (x.v)) (zza 4 (.v (.agg #[.bool false,x.v])) (zzj ⟨26,[.bool false,x.v]⟩ ty26 ?_))))))
 refine zzb (zzo (ret0 [.agg #[.bool false,x.v]] ⟨zzr ty26 zze,trivial⟩ fun u11 e12=>?_))
 exact rfl
theorem k_whole {u w:World} {i:IL} (d:Dat u w):qyc 71 #[i.v] w (Post u w fun v u'=>∃y:Sl,v=.agg #[.bool i.s,i.m.v,y.v]∧NatN u' y 1 1):=by
 refine zzm Tryz.func71 rfl Tryz.ntmps71 Tryz.results71 d ?_
 refine sq9 (zzk 1 ⟨26,i.cs⟩ (zzk 2 ⟨28,zw3⟩ (zzb (sq9 (zzi 3 (.v (i.v)) ty26 zze (zxx 4 ⟨79,[.int .u32 1]⟩ 1 (fun aa u12 e13 ab=>?_)))))))
 refine zza 5 (.v (.agg #[.bool i.s,i.m.v,.slice (some ⟨aa,0,none⟩) 1 1])) (zzj ⟨28,i.cs++[.slice (some ⟨aa,0,none⟩) 1 1]⟩ ty28 ?_)
 refine zzb (zzo (ret0 [.agg #[.bool i.s,i.m.v,.slice (some ⟨aa,0,none⟩) 1 1]] ⟨zzr ty28 zze,trivial⟩ fun u15 ac=>?_))
 exact ⟨_,rfl,((one_data ab).ext ac)⟩
theorem k_quotient {u w:World} {i j:IL} (d:Dat u w):qyc 77 #[i.v,j.v] w (Post u w fun v _=>v=.agg #[.bool (!(i.s==j.s)),i.m.v,j.m.v]):=by
 refine zzm Tryz.func77 rfl Tryz.ntmps77 Tryz.results77 d ?_
 refine sq9 (zzk 2 ⟨26,i.cs⟩ (zzk 3 ⟨26,j.cs⟩ (zzk 4 ⟨94,zw3⟩ (zzb (sq9 (zza 5 (.adr 2 0) (zzi 6 (zB i.s) ty4 zzl (zza 7 (.adr 3 0) (zzi 8 (zB j.s) ty4 zzl (zza 9 (zB (!(i.s==j.s))) (zza 10 (.adr 2 1) ?_)))))))))))
 refine zzi 11 (.v (i.m.v)) ty24 zzl (zza 12 (.v (.agg #[.bool (!(i.s==j.s)),i.m.v])) (zza 13 (.adr 3 1) (zzi 14 (.v (j.m.v)) ty24 zzl (zza 15 (.v (.agg #[.bool (!(i.s==j.s)),i.m.v,j.m.v])) (zzj ⟨94,[.bool (!(i.s==j.s)),i.m.v,j.m.v]⟩ ty94 ?_)))))
 refine zzb (zzo (ret0 [.agg #[.bool (!(i.s==j.s)),i.m.v,j.m.v]] ⟨zzr ty94 zze,trivial⟩ fun u11 e12=>?_))
 exact rfl
theorem k_flip {u w:World} {r:RL} (d:Dat u w):qyc 82 #[r.v] w (Post u w fun v _=>v=.agg #[.bool (!r.s),r.m.v,r.d.v]):=by
 refine zzm Tryz.func82 rfl Tryz.ntmps82 Tryz.results82 d ?_
 refine sq9 (zzk 1 ⟨28,r.cs⟩ (zzk 2 ⟨28,zw3⟩ (zzb (sq9 (zza 3 (.adr 1 0) (zza 4 (.adr 1 0) (zzi 5 (zB r.s) ty4 zzl (zza 6 (zB (!r.s)) (zza 7 (.adr 1 0) (zza 8 (.adr 1 1) (zzi 9 (.v (r.m.v)) ty24 zzl ?_)))))))))))
 refine zza 10 (.v (.agg #[.bool (!r.s),r.m.v])) (zza 11 (.adr 1 2) (zzi 12 (.v (r.d.v)) ty24 zzl (zza 13 (.v (.agg #[.bool (!r.s),r.m.v,r.d.v])) (zzj ⟨28,[.bool (!r.s),r.m.v,r.d.v]⟩ ty28 ?_))))
 refine zzb (zzo (ret0 [.agg #[.bool (!r.s),r.m.v,r.d.v]] ⟨zzr ty28 zze,trivial⟩ fun u11 e12=>?_))
 exact rfl
theorem k_read {u w:World} {r:RL} {q:Rat} {K:Nat} (d:Dat u w) (h:RatV u r q K):qyc 73 #[r.v] w (Post u w fun v u'=>∃ (r':RL) (wh:Bool),v=.agg #[.bool r'.s,r'.m.v,r'.d.v,.bool wh]∧NumV u' r' wh q K):=by
 obtain ⟨⟨z,D,hi,hd,hq⟩,hK⟩:=h
 change IntV u ⟨r.s,r.m⟩ z K at hi
 change NatV u r.d D K at hd
 by_cases hn:r.d.n=1
 ·obtain ⟨b,o,ha,hc⟩:=nat_digit hd hn
  by_cases hD:D=1
  ·refine zzm Tryz.func73 rfl Tryz.ntmps73 Tryz.results73 d ?_
   refine sq9 (zzk 1 ⟨28,r.cs⟩ (zzk 2 ⟨96,[.bool false,qyn,qyn,.bool false]⟩ (zzb (zzd (sq9 (zza 3 (.adr 1 2) (zzi 4 (.v (r.d.v)) ty24 zzl (zza 5 (zI r.d.n) (zyq 6 (x:=zB ((r.d.n:Int)==1)) (zB true) (by rw[show ((r.d.n:Int)==1)=true from (by simp[hn])]) (zza 7 (zB true) (zza 8 (.adr 1 2) ?_ (hw:=w1 4 true 7))))))))))))
   refine zzi 9 (.v (r.d.v)) ty24 zzl ?_ (hw:=w1 4 true 7)
   refine zya 10 o (i:=0) (n:=r.d.n) zv ha xq (by rw[hn];decide) sl24 ?_ (hw:=w1 4 true 7)
   refine zyl 11 (.int .u32 D) ((Ext.refl _).cell hc) ty79 ?_ (hw:=w1 4 true 7)
   refine zyq 12 (x:=zB ((D:Int)==1)) (zB true) (by rw[show ((D:Int)==1)=true from (by simp[hD])]) ?_ (hw:=w1 4 true 7)
   refine zza 13 (zB true) (zzb (zyr xj (sq9 (zza 14 (.adr 1 0) (zzi 15 (.v (.agg #[.bool r.s,r.m.v])) ty26 zze (zza 16 (.adr 1 2) (zzi 17 (.v (r.d.v)) ty24 zzl (zza 18 (.v (r.v)) (zza 19 (.v (.agg #[.bool r.s,r.m.v,r.d.v,.bool true])) (zzj ⟨96,r.cs++[.bool true]⟩ ty96 ?_))))))))))
   refine zzb (zzo (zzw (ret0 [.agg #[.bool r.s,r.m.v,r.d.v,.bool true]] ⟨zzr ty96 zze,trivial⟩ fun ak aj=>?_)))
   exact ⟨r,true,rfl,z,D,hi.ext aj,hd.ext aj,by omega,hq,fun _=>hD,hK⟩
  refine zzm Tryz.func73 rfl Tryz.ntmps73 Tryz.results73 d ?_
  refine sq9 (zzk 1 ⟨28,r.cs⟩ (zzk 2 ⟨96,[.bool false,qyn,qyn,.bool false]⟩ (zzb (zzd (sq9 (zza 3 (.adr 1 2) (zzi 4 (.v (r.d.v)) ty24 zzl (zza 5 (zI r.d.n) (zyq 6 (x:=zB ((r.d.n:Int)==1)) (zB true) (by rw[show ((r.d.n:Int)==1)=true from (by simp[hn])]) (zza 7 (zB true) (zza 8 (.adr 1 2) ?_ (hw:=w1 4 true 7))))))))))))
  refine zzi 9 (.v (r.d.v)) ty24 zzl ?_ (hw:=w1 4 true 7)
  refine zya 10 o (i:=0) (n:=r.d.n) zv ha xq (by rw[hn];decide) sl24 ?_ (hw:=w1 4 true 7)
  refine zyl 11 (.int .u32 D) ((Ext.refl _).cell hc) ty79 ?_ (hw:=w1 4 true 7)
  refine zyq 12 (x:=zB ((D:Int)==1)) (zB false) (by rw[show ((D:Int)==1)=false from yy]) ?_ (hw:=w1 4 true 7)
  refine zza 13 (zB false) (zzb (zys xj (zzs (zzp ?_))))
  refine zzd (sq9 (zza 20 (.adr 1 2) (zzi 21 (.v (r.d.v)) ty24 zzl (zzg 22 80 [r.d.v,qyn] ?_))))
  intro w11 ak ad ag
  have k14:=k_natCompare ag (hd.ext ad) (nat_nil _ 1)
  with_reducible refine zPm k14 ?_
  rintro _ al ae rfl
  refine zza 23 (zB ((cmpS D 0)==0)) (zzb (zzu (b:=(cmpS D 0)==0) xj (fun aa=>?_) (fun aa=>?_)))
  ·refine sq9 (zza 24 (.v (.agg #[.bool false,qyn])) (zxx 25 ⟨79,[.int .u32 1]⟩ 1 (fun ab ao am ai=>?_)))
   refine zza 26 (.v (.agg #[.bool false,qyn,.slice (some ⟨ab,0,none⟩) 1 1])) (zza 27 (.v (.agg #[.bool false,qyn,.slice (some ⟨ab,0,none⟩) 1 1,.bool true])) (zzj ⟨96,[.bool false,qyn,.slice (some ⟨ab,0,none⟩) 1 1,.bool true]⟩ ty96 ?_))
   refine zzb (zzo (zzw (ret0 [.agg #[.bool false,qyn,.slice (some ⟨ab,0,none⟩) 1 1,.bool true]] ⟨zzr ty96 zze,trivial⟩ fun ap ah=>?_)))
   have ac:D=0:=(cmp_nat0 aa).1 rfl
   refine ⟨⟨false,⟨none,0,0⟩,(⟨some ⟨ab,0,none⟩,1,1⟩:Sl)⟩,true,rfl,0,1,(⟨0,nat_nil _ K,rfl⟩:IntV _ ⟨false,⟨none,0,0⟩⟩ 0 K),((one_data ai).ext ah).raw.more hK,by omega,?_,fun _=>rfl,hK⟩
   rw[hq,ac];simp
  refine zzs (zzp ?_)
  refine sq9 (zza 28 (.adr 1 0) (zzi 29 (.v (.agg #[.bool r.s,r.m.v])) ty26 zze (zza 30 (.adr 1 2) (zzi 31 (.v (r.d.v)) ty24 zzl (zza 32 (.v (r.v)) (zza 33 (.v (.agg #[.bool r.s,r.m.v,r.d.v,.bool false])) (zzj ⟨96,r.cs++[.bool false]⟩ ty96 ?_)))))))
  refine zzb (zzo (ret0 [.agg #[.bool r.s,r.m.v,r.d.v,.bool false]] ⟨zzr ty96 zze,trivial⟩ fun an af=>?_))
  have ac:0<D:=(cmp_nat0 aa).2 rfl
  exact ⟨r,false,rfl,z,D,hi.ext (ad.t (ae.t af)),hd.ext (ad.t (ae.t af)),ac,hq,(fun k=>by cases k),hK⟩
 refine zzm Tryz.func73 rfl Tryz.ntmps73 Tryz.results73 d ?_
 refine sq9 (zzk 1 ⟨28,r.cs⟩ (zzk 2 ⟨96,[.bool false,qyn,qyn,.bool false]⟩ (zzb (zzd (sq9 (zza 3 (.adr 1 2) (zzi 4 (.v (r.d.v)) ty24 zzl (zza 5 (zI r.d.n) (zyq 6 (x:=zB ((r.d.n:Int)==1)) (zB false) (by rw[show ((r.d.n:Int)==1)=false from yy]) (zza 7 (zB false) (zzn 8 (uw 4 true false 7) ?_)))))))))))
 refine zzn 9 (uw 4 true false 7) (zzn 10 (uw 4 true false 7) (zzn 11 (uw 4 true false 7) (zzn 12 (uw 4 true false 7) (zza 13 (zB false) (zzb (zys xj (zzs (zzp ?_))))))))
 refine zzd (sq9 (zza 20 (.adr 1 2) (zzi 21 (.v (r.d.v)) ty24 zzl (zzg 22 80 _ fun _ _ ad ag=>qym (k_natCompare ag (hd.ext ad) (nat_nil _ 1)) ?_))))
 rintro _ al ae rfl
 refine zza 23 (zB ((cmpS D 0)==0)) (zzb (zzu (b:=(cmpS D 0)==0) xj (fun aa=>?_) (fun aa=>?_)))
 ·refine sq9 (zza 24 (.v (.agg #[.bool false,qyn])) (zxx 25 ⟨79,[.int .u32 1]⟩ 1 (fun ab ao am ai=>?_)))
  refine zza 26 (.v (.agg #[.bool false,qyn,.slice (some ⟨ab,0,none⟩) 1 1])) (zza 27 (.v (.agg #[.bool false,qyn,.slice (some ⟨ab,0,none⟩) 1 1,.bool true])) (zzj ⟨96,[.bool false,qyn,.slice (some ⟨ab,0,none⟩) 1 1,.bool true]⟩ ty96 ?_))
  refine zzb (zzo (zzw (ret0 [.agg #[.bool false,qyn,.slice (some ⟨ab,0,none⟩) 1 1,.bool true]] ⟨zzr ty96 zze,trivial⟩ fun ap ah=>?_)))
  have ac:D=0:=(cmp_nat0 aa).1 rfl
  refine ⟨⟨false,⟨none,0,0⟩,(⟨some ⟨ab,0,none⟩,1,1⟩:Sl)⟩,true,rfl,0,1,(⟨0,nat_nil _ K,rfl⟩:IntV _ ⟨false,⟨none,0,0⟩⟩ 0 K),((one_data ai).ext ah).raw.more hK,by omega,?_,fun _=>rfl,hK⟩
  rw[hq,ac];simp
 refine zzs (zzp ?_)
 refine sq9 (zza 28 (.adr 1 0) (zzi 29 (.v (.agg #[.bool r.s,r.m.v])) ty26 zze (zza 30 (.adr 1 2) (zzi 31 (.v (r.d.v)) ty24 zzl (zza 32 (.v (r.v)) (zza 33 (.v (.agg #[.bool r.s,r.m.v,r.d.v,.bool false])) (zzj ⟨96,r.cs++[.bool false]⟩ ty96 ?_)))))))
 refine zzb (zzo (ret0 [.agg #[.bool r.s,r.m.v,r.d.v,.bool false]] ⟨zzr ty96 zze,trivial⟩ fun an af=>?_))
 have ac:0<D:=(cmp_nat0 aa).2 rfl
 exact ⟨r,false,rfl,z,D,hi.ext (ad.t (ae.t af)),hd.ext (ad.t (ae.t af)),ac,hq,(fun k=>by cases k),hK⟩
theorem k_isOne {u w:World} {x:Sl} {N K:Nat} (d:Dat u w) (h:NatN u x N K):qyc 132 #[x.v] w (Post u w fun v _=>v=.bool (decide (N=1))):=by
 by_cases hn:x.n=1
 ·obtain ⟨b,o,ha,hc⟩:=nat_digit h.raw hn
  refine zzm Tryz.func132 rfl Tryz.ntmps132 Tryz.results132 d ?_
  refine sq9 (zza 2 (zB false) (zzb (sq9 (zza 3 (.v (x.v)) (zza 4 (zI x.n) (zyq 5 (x:=zB ((x.n:Int)==1)) (zB true) (by rw[show ((x.n:Int)==1)=true from (by simp[hn])]) (zza 6 (zB true) (zza 7 (.v (x.v)) ?_ (hw:=w1 3 true 6)))))))))
  refine zya 8 o (i:=0) (n:=x.n) zv ha xq (by rw[hn];decide) sl24 ?_ (hw:=w1 3 true 6)
  refine zyl 9 (.int .u32 N) ((Ext.refl _).cell hc) ty79 ?_ (hw:=w1 3 true 6)
  refine zza 10 (zB ((N:Int)==1)) ?_ (hw:=w1 3 true 6)
  refine zza 11 (zB ((N:Int)==1)) (zza 2 (zB ((N:Int)==1)) (zzb (zzo (ret0 [.bool ((N:Int)==1)] ⟨zzq,trivial⟩ fun aa ab=>?_))))
  show Value.bool _=Value.bool _
  congr 1
  rw[Bool.eq_iff_iff]
  simp<;>omega
 have hN:N≠1:=fun e=>hn (by rw[h.1,e,dl_one])
 refine zzm Tryz.func132 rfl Tryz.ntmps132 Tryz.results132 d ?_
 refine sq9 (zza 2 (zB false) (zzb (sq9 (zza 3 (.v (x.v)) (zza 4 (zI x.n) (zyq 5 (x:=zB ((x.n:Int)==1)) (zB false) (by rw[show ((x.n:Int)==1)=false from yy]) (zza 6 (zB false) (zzn 7 (uw 3 true false 6) (zzn 8 (uw 3 true false 6) (zzn 9 (uw 3 true false 6) (zzn 10 (uw 3 true false 6) ?_)))))))))))
 refine zza 11 (zB false) (zza 2 (zB false) (zzb (zzo (ret0 [.bool false] ⟨zzq,trivial⟩ fun aa ab=>?_))))
 show _=_
 simp[tupV]
 exact hN
theorem k_lowest {u w:World} {i:IL} {z:Int} {y:Sl} {D K L:Nat} (d:Dat u w) (h1:IntV u i z K) (hD:NatV u y D L) (hp:0<D) (hK:K≤500000000) (hL:L≤500000000):qyc 78 #[.agg #[.bool i.s,i.m.v,y.v]] w (Post u w fun v u'=>∃r:RL,v=r.v∧RatN u' r (mkRat z D) (max K L)):=by
 obtain ⟨N,hN,hz⟩:=h1
 have hL1:1≤L:=by have h2:=hD.size;have h3:=dl_mono (x:=D) (y:=1) xq;rw[dl_one] at h3;omega
 refine zzm Tryz.func78 rfl Tryz.ntmps78 Tryz.results78 d ?_
 refine sq9 (zzk 1 ⟨94,i.cs++[y.v]⟩ (zzk 2 ⟨28,zw3⟩ (zzb (sq9 (zza 14 (.adr 1 0) (zza 15 (.adr 1 1) (zzi 16 (.v (i.m.v)) ty24 zzl (zza 17 (.adr 1 2) (zzi 18 (.v (y.v)) ty24 zzl (zzg 19 86 _ fun _ _ ag aI=>qym (k_natDivMod aI (hN.ext ag) (hD.ext ag) hp xq xq) ?_))))))))))
 rintro _ u16 an ⟨am,ae,rfl,aS,aw⟩
 refine zza 13 (.v (.tuple #[am.v,ae.v,.int .i64 0])) (zza 20 (.v (am.v)) (zza 21 (.v (ae.v)) (zza 22 (zI 0) (zza 3 (.v (am.v)) (zza 4 (.v (ae.v)) (zza 5 (zI 0) (zzb (zzd (sq9 (zza 23 (.v (ae.v)) (zza 24 (zI ae.n) ?_)))))))))))
 refine zza 25 (zB ((ae.n:Int)==0)) (zzb (zzu (b:=(ae.n:Int)==0) xj (fun ac=>?_) (fun ac=>?_)))
 ·have ao:(ae.n:Int)=0:=by simpa using ac
  have hr:N%D=0:=by have h7:=(aw).pos;simp at ac;omega
  refine sq9 (zza 26 (.adr 1 0) (zza 27 (.adr 1 0) (zzi 28 (zB i.s) ty4 zzl (zza 29 (.v (am.v)) (zza 30 (.v (.agg #[.bool i.s,am.v])) (zzg 31 130 _ fun _ _ aZ aY=>qym (k_intTrim aY (IntV.same (s:=i.s) (aS.ext aZ).raw) xq) ?_))))))
  rintro _ u23 g24 ⟨al,rfl,aW⟩
  refine zzg 32 71 _ fun _ _ aP aH=>qym (k_whole (i:=al) aH) ?_
  rintro _ u29 aM ⟨ax,rfl,a1⟩
  refine zzj ⟨28,al.cs++[ax.v]⟩ ty28 ?_
  refine zzb (zzo (zzw (ret0 [.agg #[.bool al.s,al.m.v,ax.v]] ⟨zzr ty28 zze,trivial⟩ fun u32 aQ=>?_)))
  refine ⟨(⟨al.s,al.m,ax⟩:RL),rfl,RatN.more (K:=(max K 1)) ?_ xq⟩
  rw[hz,← low1 hp hr]
  exact ((whole_rat (aW.ext (aP.t aM.ext)) a1).ext aQ)
 have ao:¬((ae.n:Int)=0):=by simpa using ac
 have hr:N%D≠0:=by have h7:=(aw).pos;simp at ac;omega
 refine zzs (zzp ?_)
 refine sq9 (zza 33 (.adr 1 2) (zzi 34 (.v (y.v)) ty24 zzl (zza 35 (.v (ae.v)) (zzg 36 131 _ fun _ _ aj aU=>qym (k_natGcd aU (hD.ext (ag.t (an.t aj))) (aw.ext aj).raw xq xq) ?_))))
 rintro _ u37 aq ⟨ap,rfl,au⟩
 refine zza 6 (.v (ap.v)) (zzb (zzd (sq9 (zza 37 (.v (ap.v)) (zzg 38 132 _ fun _ _ ah a2=>qym (k_isOne a2 (au.ext ah)) ?_)))))
 rintro _ u41 ak rfl
 refine zzb (zzu (b:=decide ((Nat.gcd D (N%D))=1)) xj (fun ab=>?_) (fun ab=>?_))
 ·have qhb44:=qyt ab
  have hg:Nat.gcd D (N%D)=1:=by simpa using ab
  have hgp:0<Nat.gcd D (N%D):=Nat.gcd_pos_of_pos_left _ hp
  refine zzd (zzz [0,1,3,0,8,31,63,127] [(0,[]),(1,[]),(3,[]),(4,[]),(2,[]),(5,[]),(6,[]),(7,[])] xj xj (zza 39 (.adr 1 0) (zzi 40 (.v (i.v)) ty26 zze (zza 42 (.adr 1 2) (zzi 43 (.v (y.v)) ty24 zzl (zzg 41 130 _ fun _ _ aD aK=>qym (k_intTrim aK (IntV.same (s:=i.s) (hN.ext (ag.t (an.t (aj.t (aq.t (ah.t (ak.t aD)))))))) xq) ?_))))))
  rintro _ u48 aL ⟨af,rfl,aN⟩
  refine zzg 44 129 _ fun _ _ aE aX=>qym (k_natTrim aX (hD.ext (ag.t (an.t (aj.t (aq.t (ah.t (ak.t (aD.t (aL.t aE))))))))) xq) ?_
  rintro _ u54 a0 ⟨ai,rfl,aV⟩
  refine zza 45 (.v (.agg #[.bool af.s,af.m.v,ai.v])) (zzj ⟨28,af.cs++[ai.v]⟩ ty28 ?_)
  refine zzc 70 [(2,.adr 2 0)] [(2,⟨28,af.cs++[ai.v]⟩)] (zzo (zzw (ret0 [.agg #[.bool af.s,.slice af.m.a af.m.n af.m.c,.slice ai.a ai.n ai.c]] ⟨zzr ty28 zze,trivial⟩ fun u57 aC=>?_)))
  refine ⟨(⟨af.s,af.m,ai⟩:RL),rfl,?_⟩
  rw[hz]
  exact low2 hp hg (aN.ext (aE.t (a0.t aC))) (aV.ext aC)
 have qhb44:=qyf ab
 have hg:¬Nat.gcd D (N%D)=1:=by simpa using ab
 have hgp:0<Nat.gcd D (N%D):=Nat.gcd_pos_of_pos_left _ hp
 refine zzs (zzp ?_)
 refine sq9 (zza 47 (.adr 1 0) (zza 48 (.adr 1 1) (zzi 49 (.v (i.m.v)) ty24 zzl (zza 50 (.v (ap.v)) (zzg 51 86 _ fun _ _ ar aJ=>qym (k_natDivMod aJ (hN.ext (ag.t (an.t (aj.t (aq.t (ah.t (ak.t ar))))))) (au.ext (ah.t (ak.t ar))).raw hgp xq xq) ?_)))))
 rintro _ u64 aB ⟨aa,av,rfl,aT,h63⟩
 refine zza 46 (.v (.tuple #[aa.v,av.v,.int .i64 0])) (zza 52 (.v (aa.v)) (zza 53 (.v (av.v)) (zza 54 (zI 0) (zza 7 (.v (aa.v)) (zza 8 (.v (av.v)) (zza 9 (zI 0) (zzc 70 [(1,.adr 1 0),(2,.adr 2 0),(6,.v (ap.v)),(7,.v (aa.v))] [(1,⟨94,i.cs++[y.v]⟩),(2,⟨28,zw3⟩)] (sq9 (zza 56 (.adr 1 2) (zzi 57 (.v (y.v)) ty24 zzl (zza 58 (.v (ap.v)) ?_)))))))))))
 refine zzg 59 86 _ fun _ _ aA aG=>qym (k_natDivMod aG (hD.ext (ag.t (an.t (aj.t (aq.t (ah.t (ak.t (ar.t (aB.t aA))))))))) (au.ext (ah.t (ak.t (ar.t (aB.t aA))))).raw hgp xq xq) ?_
 rintro _ u72 aR ⟨ad,ay,rfl,aO,h71⟩
 refine zza 55 (.v (.tuple #[ad.v,ay.v,.int .i64 0])) (zza 60 (.v (ad.v)) (zza 61 (.v (ay.v)) (zza 62 (zI 0) (zza 10 (.v (ad.v)) (zza 11 (.v (ay.v)) (zza 12 (zI 0) (zzb (sq9 (zza 63 (.adr 1 0) (zza 64 (.adr 1 0) (zzi 65 (zB i.s) ty4 zzl ?_)))))))))))
 refine zza 66 (.v (aa.v)) (zza 67 (.v (.agg #[.bool i.s,aa.v])) (zza 68 (.v (ad.v)) (zza 69 (.v (.agg #[.bool i.s,aa.v,ad.v])) (zzj ⟨28,[.bool i.s,aa.v,ad.v]⟩ ty28 ?_))))
 refine zzb (zzo (ret0 [.agg #[.bool i.s,.slice aa.a aa.n aa.c,.slice ad.a ad.n ad.c]] ⟨zzr ty28 zze,trivial⟩ fun u75 aF=>?_))
 refine ⟨(⟨i.s,aa,ad⟩:RL),rfl,RatN.more (K:=max K L) ?_ xq⟩
 rw[hz]
 exact low3 hp hr (aT.ext (aA.t (aR.t aF))) (aO.ext aF)
theorem k_ratTrim {u w:World} {r1:RL} {x:Rat} {K:Nat} (d:Dat u w) (hr1:RatV u r1 x K) (hK:K≤200000000):qyc 84 #[r1.v] w (Post u w fun v u'=>∃r:RL,v=r.v∧RatN u' r x K):=by
 refine zzm Tryz.func84 rfl Tryz.ntmps84 Tryz.results84 d ?_
 refine sq9 (zzk 1 ⟨28,r1.cs⟩ (zzk 2 ⟨28,zw3⟩ (zzb (sq9 (zzi 3 (.v (r1.v)) ty28 zze (zzg 4 73 _ fun _ _ ah ai=>qym (k_read ai (hr1.ext ah)) ?_))))))
 rintro _ u13 g14 ⟨al,aj,rfl,z12,D12,ad,aa,ab,ae,an,ag⟩
 refine zza 5 (.v (al.v)) (zzg 6 78 _ fun _ _ af ao=>qym (k_lowest ao (ad.ext af) (aa.ext af) ab xq xq) ?_)
 rintro _ u19 g20 ⟨ac,rfl,am⟩
 refine zzj ⟨28,ac.cs⟩ ty28 ?_
 refine zzb (zzo (ret0 [ac.v] ⟨zzr ty28 zze,trivial⟩ fun u22 ak=>?_))
 refine ⟨ac,rfl,RatN.more (K:=(max K K)) ?_ xq⟩
 rw[ae];exact (am.ext ak)
theorem k_ratOf {u w:World} {z:Int} (d:Dat u w) (h0 : -9223372036854775808≤z) (h1:z≤9223372036854775807):qyc 23 #[.int .i64 z] w (Post u w fun v u'=>∃r:RL,v=r.v∧RatN u' r (z:Rat) 2):=by
 refine zzm Tryz.func23 rfl Tryz.ntmps23 Tryz.results23 d ?_
 refine sq9 (zzk 2 ⟨28,zw3⟩ (zzb (sq9 (zza 3 (zI z) (zzg 4 72 _ fun _ _ _ ac=>qym (k_intOf ac (z:=z) xq xq) ?_)))))
 rintro _ u14 g15 ⟨aa,rfl,ae⟩
 refine zzg 5 71 _ fun _ _ af ad=>qym (k_whole (i:=aa) ad) ?_
 rintro _ u20 ah ⟨ab,rfl,ai⟩
 refine zzj ⟨28,aa.cs++[ab.v]⟩ ty28 ?_
 refine zzb (zzo (ret0 [.agg #[.bool aa.s,aa.m.v,ab.v]] ⟨zzr ty28 zze,trivial⟩ fun u23 ag=>?_))
 refine ⟨(⟨aa.s,aa.m,ab⟩:RL),rfl,RatN.more (K:=(max 2 1)) ?_ xq⟩
 exact ((whole_rat (ae.ext (af.t ah.ext)) ai).ext ag)
theorem k_ratSign {u w:World} {r1:RL} {x:Rat} {K:Nat} (d:Dat u w) (hr1:RatV u r1 x K)  : qyc 29 #[r1.v] w (Post u w fun v u'=>v=.int .i64 (sgQ x)):=by
 refine zzm Tryz.func29 rfl Tryz.ntmps29 Tryz.results29 d ?_
 refine sq9 (zzk 1 ⟨28,r1.cs⟩ (zza 2 (zI 0) (zzb (sq9 (zzi 3 (.v (r1.v)) ty28 zze (zzg 4 73 _ fun _ _ ag ai=>qym (k_read ai (hr1.ext ag)) ?_))))))
 rintro _ u13 g14 ⟨ab,aj,rfl,ae,D12,ac,ah,aa,ad,al,af⟩
 refine zza 5 (.v (ab.v)) (zza 6 (.v (.agg #[.bool ab.s,ab.m.v])) (zzg 7 74 _ fun _ _ ak am=>qym (k_intSign am (ac.ext ak)) ?_))
 rintro _ u17 g18 rfl
 refine zza 2 (zI (cmpS ae 0)) (zzb (zzo (ret0 [.int .i64 (cmpS ae 0)] ⟨zzq,trivial⟩ fun u20 e21=>?_)))
 show _=_
 rw[ad,← sg_mk aa]
 rfl
theorem k_ratCompare {u w:World} {r1:RL} {x:Rat} {K:Nat} {r2:RL} {y:Rat} {L:Nat} (d:Dat u w) (hr1:RatV u r1 x K) (hr2:RatV u r2 y L) (hK:K≤200000000) (hL:L≤200000000):qyc 125 #[r1.v,r2.v] w (Post u w fun v u'=>v=.int .i64 (cmpQ x y)):=by
 refine zzm Tryz.func125 rfl Tryz.ntmps125 Tryz.results125 d ?_
 refine sq9 (zzk 2 ⟨28,r1.cs⟩ (zzk 3 ⟨28,r2.cs⟩ (zza 4 (zI 0) (zzb (zzd (zzz [0,1,0,7,0,0,63,127] [(0,[]),(2,[]),(4,[]),(5,[]),(1,[]),(3,[]),(6,[]),(7,[])] xj xj (zzi 7 (.v (r1.v)) ty28 zze (zzi 9 (.v (r2.v)) ty28 zze (zzk 5 ⟨96,[.bool false,qyn,qyn,.bool false]⟩ (zzk 6 ⟨96,[.bool false,qyn,qyn,.bool false]⟩ (zzg 8 73 _ fun _ _ aK aR=>qym (k_read aR (hr1.ext aK)) ?_)))))))))))
 rintro _ u13 a8 ⟨ab,ae,rfl,af,an,ak,au,ah,aj,aH,a7⟩
 refine zzg 10 73 _ fun _ _ ao a5=>qym (k_read a5 (hr2.ext (aK.t (a8.t ao)))) ?_
 rintro _ u18 ar ⟨ad,aa,rfl,ag,ap,am,aq,ai,al,aG,aU⟩
 refine zzj ⟨96,ab.cs++[.bool ae]⟩ ty96 ?_
 refine zzj ⟨96,ad.cs++[.bool aa]⟩ ty96 ?_
 refine zzb (zzd (sq9 (zza 11 (.adr 5 3) (zzi 12 (zB ae) ty4 zzl ?_))))
 rcases Bool.eq_false_or_eq_true ae with hs21 | hs21
 ·refine qbi 13 hs21 (zza 14 (.adr 6 3) ?_ (hw:=w1 2 true 13))
  refine zzi 15 (zB aa) ty4 zzl ?_ (hw:=w1 2 true 13)
  refine zza 16 (zB aa) (zzb (zzu (b:=aa) xj (fun ac=>?_) (fun ac=>?_)))
  ·replace ac:aa=true:=ac
   refine sq9 (zza 17 (.adr 5 0) (zza 18 (.adr 5 0) (zzi 19 (.v (.agg #[.bool ab.s,ab.m.v])) ty26 zze (zza 20 (.adr 6 0) (zza 21 (.adr 6 0) (zzi 22 (.v (.agg #[.bool ad.s,ad.m.v])) ty26 zze (zzg 23 167 _ fun _ _ aP aS=>qym (k_intCompare aS (ak.ext (ao.t (ar.t aP))) (am.ext aP)) ?_)))))))
   rintro _ u24 g25 rfl
   refine zza 4 (zI (cmpS af ag)) (zzb (zzo (zzw (ret0 [.int .i64 (cmpS af ag)] ⟨zzq,trivial⟩ fun u27 e28=>?_))))
   show _=_
   rw[aj,al,← cmp_mk ah ai]
   rw[aH (by assumption),aG (by assumption)]
   simp[tupV]
  replace ac:aa=false:=ac
  refine zzs (zzp ?_)
  refine zzd (zzz [0,1,3,0,8,24,56,127,0,256,768,0,2048,6144,14591,32767,65535,131071] [(0,[]),(1,[]),(2,[]),(3,[]),(4,[]),(5,[]),(8,[]),(9,[]),(10,[]),(11,[]),(12,[]),(13,[]),(6,[]),(7,[]),(14,[]),(15,[]),(16,[]),(17,[])] xj xj (zza 24 (.adr 5 0) (zza 25 (.adr 5 0) (zzi 26 (.v (.agg #[.bool ab.s,ab.m.v])) ty26 zze (zza 27 (.adr 6 0) (zza 28 (.adr 6 2) (zzi 29 (.v (ad.d.v)) ty24 zzl (zza 32 (.adr 6 0) (zza 33 (.adr 6 0) (zzi 34 (.v (.agg #[.bool ad.s,ad.m.v])) ty26 zze (zza 35 (.adr 5 0) ?_)))))))))))
  refine zza 36 (.adr 5 2) (zzi 37 (.v (ab.d.v)) ty24 zzl (zzg 30 76 _ fun _ _ ay a3=>qym (k_natural (x:=ad.d) a3) ?_))
  rintro _ u30 av rfl
  refine zzg 31 75 _ fun _ _ aA aQ=>qym (k_intMul aQ (ak.ext (ao.t (ar.t (ay.t (av.t aA))))) (nat_int (aq.ext (ay.t (av.t aA)))) xq xq) ?_
  rintro _ u36 aL ⟨i34,rfl,ba⟩
  refine zzg 38 76 _ fun _ _ aE a4=>qym (k_natural (x:=ab.d) a4) ?_
  rintro _ u40 aI rfl
  refine zzg 39 75 _ fun _ _ aD a2=>qym (k_intMul a2 (am.ext (ay.t (av.t (aA.t (aL.t (aE.t (aI.t aD))))))) (nat_int (au.ext (ao.t (ar.t (ay.t (av.t (aA.t (aL.t (aE.t (aI.t aD)))))))))) xq xq) ?_
  rintro _ u46 a1 ⟨i44,rfl,a6⟩
  refine zzg 40 167 _ fun _ _ aN aT=>qym (k_intCompare aT (ba.ext (aE.t (aI.t (aD.t (a1.t aN))))).raw (a6.ext aN).raw) ?_
  rintro _ u50 g51 rfl
  refine zza 4 (zI (cmpS (af*(ap:Int)) (ag*(an:Int)))) (zzc 41 [(4,zI (cmpS (af*(ap:Int)) (ag*(an:Int))))] [] (zzo (ret0 [.int .i64 (cmpS (af*(ap:Int)) (ag*(an:Int)))] ⟨zzq,trivial⟩ fun u53 e54=>?_)))
  show _=_
  rw[aj,al,← cmp_mk ah ai]
  rfl
 refine qbi 13 hs21 (zzn 14 (uw 2 true false 13) (zzn 15 (uw 2 true false 13) (zza 16 (zB false) (zzb (zys xj (zzs (zzp ?_)))))))
 refine zzd (zzz [0,1,3,0,8,24,56,127,0,256,768,0,2048,6144,14591,32767,65535,131071] [(0,[]),(1,[]),(2,[]),(3,[]),(4,[]),(5,[]),(8,[]),(9,[]),(10,[]),(11,[]),(12,[]),(13,[]),(6,[]),(7,[]),(14,[]),(15,[]),(16,[]),(17,[])] xj xj (zza 24 (.adr 5 0) (zza 25 (.adr 5 0) (zzi 26 (.v (.agg #[.bool ab.s,ab.m.v])) ty26 zze (zza 27 (.adr 6 0) (zza 28 (.adr 6 2) (zzi 29 (.v (ad.d.v)) ty24 zzl (zza 32 (.adr 6 0) (zza 33 (.adr 6 0) (zzi 34 (.v (.agg #[.bool ad.s,ad.m.v])) ty26 zze (zza 35 (.adr 5 0) ?_)))))))))))
 refine zza 36 (.adr 5 2) (zzi 37 (.v (ab.d.v)) ty24 zzl (zzg 30 76 _ fun _ _ aB a0=>qym (k_natural (x:=ad.d) a0) ?_))
 rintro _ u56 ax rfl
 refine zzg 31 75 _ fun _ _ aw aV=>qym (k_intMul aV (ak.ext (ao.t (ar.t (aB.t (ax.t aw))))) (nat_int (aq.ext (aB.t (ax.t aw)))) xq xq) ?_
 rintro _ u62 aO ⟨i60,rfl,aY⟩
 refine zzg 38 76 _ fun _ _ aJ bb=>qym (k_natural (x:=ab.d) bb) ?_
 rintro _ u66 aF rfl
 refine zzg 39 75 _ fun _ _ aC aW=>qym (k_intMul aW (am.ext (aB.t (ax.t (aw.t (aO.t (aJ.t (aF.t aC))))))) (nat_int (au.ext (ao.t (ar.t (aB.t (ax.t (aw.t (aO.t (aJ.t (aF.t aC)))))))))) xq xq) ?_
 rintro _ u72 a9 ⟨i70,rfl,aZ⟩
 refine zzg 40 167 _ fun _ _ aM aX=>qym (k_intCompare aX (aY.ext (aJ.t (aF.t (aC.t (a9.t aM))))).raw (aZ.ext aM).raw) ?_
 rintro _ u76 g77 rfl
 refine zza 4 (zI (cmpS (af*(ap:Int)) (ag*(an:Int)))) (zzc 41 [(4,zI (cmpS (af*(ap:Int)) (ag*(an:Int))))] [] (zzo (ret0 [.int .i64 (cmpS (af*(ap:Int)) (ag*(an:Int)))] ⟨zzq,trivial⟩ fun u79 e80=>?_)))
 show _=_
 rw[aj,al,← cmp_mk ah ai]
 rfl
theorem k_ratNeg {u w:World} {r1:RL} {x:Rat} {K:Nat} (d:Dat u w) (hr1:RatV u r1 x K) (hK:K≤200000000):qyc 145 #[r1.v] w (Post u w fun v u'=>∃r:RL,v=r.v∧RatN u' r (-x) K):=by
 refine zzm Tryz.func145 rfl Tryz.ntmps145 Tryz.results145 d ?_
 refine sq9 (zzk 1 ⟨28,r1.cs⟩ (zzk 2 ⟨28,zw3⟩ (zzb (sq9 (zzi 3 (.v (r1.v)) ty28 zze (zzg 4 82 _ fun _ _ ah ab=>qym (k_flip (r:=r1) ab) ?_))))))
 rintro _ u12 ad rfl
 refine zzg 5 84 _ fun _ _ af ac=>qym (k_ratTrim ac ((flip_rat (hr1.ext (ah.t ad.ext))).ext af) xq) ?_
 rintro _ u18 g19 ⟨aa,rfl,ae⟩
 refine zzj ⟨28,aa.cs⟩ ty28 ?_
 refine zzb (zzo (ret0 [aa.v] ⟨zzr ty28 zze,trivial⟩ fun u21 ag=>?_))
 refine ⟨aa,rfl,RatN.more (K:=K) ?_ xq⟩
 exact (ae.ext ag)
theorem k_ratAbs {u w:World} {r1:RL} {x:Rat} {K:Nat} (d:Dat u w) (hr1:RatV u r1 x K) (hK:K≤200000000):qyc 189 #[r1.v] w (Post u w fun v u'=>∃r:RL,v=r.v∧RatN u' r (absQ x) K):=by
 refine zzm Tryz.func189 rfl Tryz.ntmps189 Tryz.results189 d ?_
 refine sq9 (zzk 1 ⟨28,r1.cs⟩ (zzk 2 ⟨28,zw3⟩ (zzb (sq9 (zza 3 (.adr 1 0) (zza 4 (.adr 1 1) (zzi 5 (.v (r1.m.v)) ty24 zzl (zza 6 (.v (.agg #[.bool false,r1.m.v])) (zza 7 (.adr 1 2) (zzi 8 (.v (r1.d.v)) ty24 zzl (zza 9 (.v (.agg #[.bool false,r1.m.v,r1.d.v])) ?_)))))))))))
 refine zzg 10 84 _ fun _ _ ae ab=>qym (k_ratTrim ab ((abs_rat hr1).ext ae) xq) ?_
 rintro _ u14 g15 ⟨aa,rfl,ad⟩
 refine zzj ⟨28,aa.cs⟩ ty28 ?_
 refine zzb (zzo (ret0 [aa.v] ⟨zzr ty28 zze,trivial⟩ fun u17 ac=>?_))
 refine ⟨aa,rfl,RatN.more (K:=K) ?_ xq⟩
 exact (ad.ext ac)
theorem k_ratAdd {u w:World} {r1:RL} {x:Rat} {K:Nat} {r2:RL} {y:Rat} {L:Nat} (d:Dat u w) (hr1:RatV u r1 x K) (hr2:RatV u r2 y L) (hK:K≤200000000) (hL:L≤200000000):qyc 25 #[r1.v,r2.v] w (Post u w fun v u'=>∃r:RL,v=r.v∧RatN u' r (x+y) (K+L+1)):=by
 refine zzm Tryz.func25 rfl Tryz.ntmps25 Tryz.results25 d ?_
 refine sq9 (zzk 2 ⟨28,r1.cs⟩ (zzk 3 ⟨28,r2.cs⟩ (zzk 4 ⟨28,zw3⟩ (zzb (zzd (zzz [0,1,0,7,0,0,63,127] [(0,[]),(2,[]),(4,[]),(5,[]),(1,[]),(3,[]),(6,[]),(7,[])] xj xj (zzi 8 (.v (r1.v)) ty28 zze (zzi 10 (.v (r2.v)) ty28 zze (zzk 5 ⟨96,[.bool false,qyn,qyn,.bool false]⟩ (zzk 6 ⟨96,[.bool false,qyn,qyn,.bool false]⟩ (zzg 9 73 _ fun _ _ bx bI=>qym (k_read bI (hr1.ext bx)) ?_)))))))))))
 rintro _ u13 ci ⟨aa,af,rfl,z12,aL,au,ae,ac,aq,bu,cc⟩
 refine zzg 11 73 _ fun _ _ ag b8=>qym (k_read b8 (hr2.ext (bx.t (ci.t ag)))) ?_
 rintro _ u18 aj ⟨ab,ad,rfl,z17,D17,ax,ai,aB,aw,bs,bO⟩
 refine zzj ⟨96,aa.cs++[.bool af]⟩ ty96 ?_
 refine zzj ⟨96,ab.cs++[.bool ad]⟩ ty96 ?_
 refine zzb (zzd (sq9 (zza 12 (.adr 5 3) (zzi 13 (zB af) ty4 zzl ?_))))
 rcases Bool.eq_false_or_eq_true af with hs21 | hs21
 ·refine qbi 14 hs21 (zza 15 (.adr 6 3) ?_ (hw:=w1 2 true 14))
  refine zzi 16 (zB ad) ty4 zzl ?_ (hw:=w1 2 true 14)
  refine zza 17 (zB ad) (zzb (zzu (b:=ad) xj (fun ar=>?_) (fun ar=>?_)))
  ·replace ar:ad=true:=ar
   refine sq9 (zza 18 (.adr 5 0) (zza 19 (.adr 5 0) (zzi 20 (.v (.agg #[.bool aa.s,aa.m.v])) ty26 zze (zza 21 (.adr 6 0) (zza 22 (.adr 6 0) (zzi 23 (.v (.agg #[.bool ab.s,ab.m.v])) ty26 zze (zzg 24 79 _ fun _ _ bC bM=>qym (k_intAdd bM (au.ext (ag.t (aj.t bC))) (ax.ext bC) xq xq) ?_)))))))
   rintro _ u26 g27 ⟨aN,rfl,bK⟩
   refine zzg 25 71 _ fun _ _ bN b0=>qym (k_whole (i:=aN) b0) ?_
   rintro _ u32 b1 ⟨bw,rfl,ct⟩
   refine zzj ⟨28,aN.cs++[bw.v]⟩ ty28 ?_
   refine zzb (zzo (zzw (ret0 [.agg #[.bool aN.s,aN.m.v,bw.v]] ⟨zzr ty28 zze,trivial⟩ fun u35 bF=>?_)))
   refine ⟨(⟨aN.s,aN.m,bw⟩:RL),rfl,RatN.more (K:=(max (max K L+1) 1)) ?_ xq⟩
   rw[aq,aw,bu (by assumption),bs (by assumption),mk_one,mk_one,← Rat.intCast_add]
   exact ((whole_rat (bK.ext (bN.t b1.ext)) ct).ext bF)
  replace ar:ad=false:=ar
  refine zzs (zzp ?_)
  refine zzd (sq9 (zza 26 (.adr 5 0) (zza 27 (.adr 5 2) (zzi 28 (.v (aa.d.v)) ty24 zzl (zza 29 (.adr 6 0) (zza 30 (.adr 6 2) (zzi 31 (.v (ab.d.v)) ty24 zzl (zzg 32 80 _ fun _ _ an bH=>qym (k_natCompare bH (ae.ext (ag.t (aj.t an))) (ai.ext an)) ?_))))))))
  rintro _ u38 aA rfl
  refine zza 33 (zB ((cmpS aL D17)==0)) (zzb (zzu (b:=(cmpS aL D17)==0) xj (fun aS=>?_) (fun aS=>?_)))
  ·refine zzd (zzz [0,1,3,0,8,24,63,0,128,384,1023,2047,4095] [(0,[]),(1,[]),(2,[]),(3,[]),(4,[]),(5,[]),(7,[]),(8,[]),(9,[]),(6,[]),(10,[]),(11,[]),(12,[])] xj xj (zza 34 (.adr 5 0) (zza 35 (.adr 5 0) (zzi 36 (.v (.agg #[.bool aa.s,aa.m.v])) ty26 zze (zza 37 (.adr 6 0) (zza 38 (.adr 6 0) (zzi 39 (.v (.agg #[.bool ab.s,ab.m.v])) ty26 zze (zza 41 (.adr 5 0) (zza 42 (.adr 5 2) (zzi 43 (.v (aa.d.v)) ty24 zzl (zzg 40 79 _ fun _ _ bh bY=>qym (k_intAdd bY (au.ext (ag.t (aj.t (an.t (aA.t bh))))) (ax.ext (an.t (aA.t bh))) xq xq) ?_)))))))))))
   rintro _ u45 bQ ⟨bz,rfl,b2⟩
   refine zza 44 (.v (.agg #[.bool bz.s,bz.m.v,aa.d.v])) (zzg 45 78 _ fun _ _ bA bL=>qym (k_lowest bL (b2.ext bA).raw (ae.ext (ag.t (aj.t (an.t (aA.t (bh.t (bQ.t bA))))))) ac xq xq) ?_)
   rintro _ u51 g52 ⟨a0,rfl,b6⟩
   refine zzj ⟨28,a0.cs⟩ ty28 ?_
   refine zzc 73 [(4,.adr 4 0)] [(4,⟨28,a0.cs⟩)] (zzo (zzw (ret0 [a0.v] ⟨zzr ty28 zze,trivial⟩ fun u54 cq=>?_)))
   refine ⟨a0,rfl,RatN.more (K:=(max (max K L+1) K)) ?_ xq⟩
   have hD:aL=D17:=cmp_natE aS
   rw[aq,aw,← hD,← add_same ac]
   exact (b6.ext cq)
  refine zzs (zzp ?_)
  refine zzd (zzz [0,1,3,0,8,24,56,127,0,256,768,0,2048,6144,14591,32767,65535,0,262143] [(0,[]),(1,[]),(2,[]),(3,[]),(4,[]),(5,[]),(8,[]),(9,[]),(10,[]),(11,[]),(12,[]),(13,[]),(17,[]),(6,[]),(7,[]),(14,[]),(15,[]),(16,[]),(18,[])] xj xj (zza 46 (.adr 5 0) (zza 47 (.adr 5 0) (zzi 48 (.v (.agg #[.bool aa.s,aa.m.v])) ty26 zze (zza 49 (.adr 6 0) (zza 50 (.adr 6 2) (zzi 51 (.v (ab.d.v)) ty24 zzl (zza 54 (.adr 6 0) (zza 55 (.adr 6 0) (zzi 56 (.v (.agg #[.bool ab.s,ab.m.v])) ty26 zze (zza 57 (.adr 5 0) ?_)))))))))))
  refine zza 58 (.adr 5 2) (zzi 59 (.v (aa.d.v)) ty24 zzl (zzk 7 ⟨26,[.bool false,qyn]⟩ (zzg 52 76 _ fun _ _ aO cj=>qym (k_natural (x:=ab.d) cj) ?_)))
  rintro _ u57 aP rfl
  refine zzg 53 75 _ fun _ _ aM ch=>qym (k_intMul ch (au.ext (ag.t (aj.t (an.t (aA.t (aO.t (aP.t aM))))))) (nat_int (ai.ext (an.t (aA.t (aO.t (aP.t aM)))))) xq xq) ?_
  rintro _ u63 a1 ⟨i61,rfl,cm⟩
  refine zzg 60 76 _ fun _ _ aU b9=>qym (k_natural (x:=aa.d) b9) ?_
  rintro _ u67 aW rfl
  refine zzg 61 75 _ fun _ _ aX ck=>qym (k_intMul ck (ax.ext (an.t (aA.t (aO.t (aP.t (aM.t (a1.t (aU.t (aW.t aX))))))))) (nat_int (ae.ext (ag.t (aj.t (an.t (aA.t (aO.t (aP.t (aM.t (a1.t (aU.t (aW.t aX)))))))))))) xq xq) ?_
  rintro _ u73 bj ⟨i71,rfl,cl⟩
  refine zzg 62 79 _ fun _ _ aZ cn=>qym (k_intAdd cn (cm.ext (aU.t (aW.t (aX.t (bj.t aZ))))).raw (cl.ext aZ).raw xq xq) ?_
  rintro _ u79 bD ⟨aR,rfl,ca⟩
  refine zzj ⟨26,aR.cs⟩ ty26 ?_
  refine zzc 73 [(4,.adr 4 0),(5,.adr 5 0),(6,.adr 6 0),(7,.adr 7 0)] [(4,⟨28,zw3⟩),(5,⟨96,aa.cs++[.bool af]⟩),(6,⟨96,ab.cs++[.bool ad]⟩),(7,⟨26,aR.cs⟩)] (zzd (zzz [0,0,2,6,0,16,48,126,255,511,1023] [(0,[]),(1,[]),(2,[]),(3,[]),(4,[]),(5,[]),(6,[]),(7,[]),(8,[]),(9,[]),(10,[])] xj xj (zzi 63 (.v (aR.v)) ty26 zze (zza 64 (.adr 5 0) (zza 65 (.adr 5 2) (zzi 66 (.v (aa.d.v)) ty24 zzl (zza 67 (.adr 6 0) (zza 68 (.adr 6 2) (zzi 69 (.v (ab.d.v)) ty24 zzl (zzg 70 81 _ fun _ _ bt bP=>qym (k_natMul bP (ae.ext (ag.t (aj.t (an.t (aA.t (aO.t (aP.t (aM.t (a1.t (aU.t (aW.t (aX.t (bj.t (aZ.t (bD.t bt))))))))))))))) (ai.ext (an.t (aA.t (aO.t (aP.t (aM.t (a1.t (aU.t (aW.t (aX.t (bj.t (aZ.t (bD.t bt))))))))))))) xq xq) ?_))))))))))
  rintro _ u85 bG ⟨bZ,rfl,cp⟩
  refine zza 71 (.v (.agg #[.bool aR.s,aR.m.v,bZ.v])) (zzg 72 78 _ fun _ _ bB b5=>qym (k_lowest b5 (ca.ext (bt.t (bG.t bB))).raw (cp.ext bB).raw (Nat.mul_pos ac aB) xq xq) ?_)
  rintro _ u91 g92 ⟨bq,rfl,bE⟩
  refine zzj ⟨28,bq.cs⟩ ty28 ?_
  refine zzb (zzo (ret0 [bq.v] ⟨zzr ty28 zze,trivial⟩ fun u94 b3=>?_))
  refine ⟨bq,rfl,RatN.more (K:=(max (max (K+L) (L+K)+1) (K+L))) ?_ xq⟩
  rw[aq,aw,← add_mk ac aB]
  exact (bE.ext b3)
 refine qbi 14 hs21 (zzn 15 (uw 2 true false 14) (zzn 16 (uw 2 true false 14) (zza 17 (zB false) (zzb (zys xj (zzs (zzp ?_)))))))
 refine zzd (sq9 (zza 26 (.adr 5 0) (zza 27 (.adr 5 2) (zzi 28 (.v (aa.d.v)) ty24 zzl (zza 29 (.adr 6 0) (zza 30 (.adr 6 2) (zzi 31 (.v (ab.d.v)) ty24 zzl (zzg 32 80 _ fun _ _ ap cg=>qym (k_natCompare cg (ae.ext (ag.t (aj.t ap))) (ai.ext ap)) ?_))))))))
 rintro _ u97 aC rfl
 refine zza 33 (zB ((cmpS aL D17)==0)) (zzb (zzu (b:=(cmpS aL D17)==0) xj (fun aG=>?_) (fun aG=>?_)))
 ·refine zzd (zzz [0,1,3,0,8,24,63,0,128,384,1023,2047,4095] [(0,[]),(1,[]),(2,[]),(3,[]),(4,[]),(5,[]),(7,[]),(8,[]),(9,[]),(6,[]),(10,[]),(11,[]),(12,[])] xj xj (zza 34 (.adr 5 0) (zza 35 (.adr 5 0) (zzi 36 (.v (.agg #[.bool aa.s,aa.m.v])) ty26 zze (zza 37 (.adr 6 0) (zza 38 (.adr 6 0) (zzi 39 (.v (.agg #[.bool ab.s,ab.m.v])) ty26 zze (zza 41 (.adr 5 0) (zza 42 (.adr 5 2) (zzi 43 (.v (aa.d.v)) ty24 zzl (zzg 40 79 _ fun _ _ aJ bf=>qym (k_intAdd bf (au.ext (ag.t (aj.t (ap.t (aC.t aJ))))) (ax.ext (ap.t (aC.t aJ))) xq xq) ?_)))))))))))
  rintro _ cr a2 ⟨aT,rfl,bl⟩
  refine zza 44 (.v (.agg #[.bool aT.s,aT.m.v,aa.d.v])) (zzg 45 78 _ fun _ _ aQ bn=>qym (k_lowest bn (bl.ext aQ).raw (ae.ext (ag.t (aj.t (ap.t (aC.t (aJ.t (a2.t aQ))))))) ac xq xq) ?_)
  rintro _ bU cb ⟨aE,rfl,bc⟩
  refine zzj ⟨28,aE.cs⟩ ty28 ?_
  refine zzc 73 [(4,.adr 4 0)] [(4,⟨28,aE.cs⟩)] (zzo (zzw (ret0 [aE.v] ⟨zzr ty28 zze,trivial⟩ fun bS bk=>?_)))
  refine ⟨aE,rfl,RatN.more (K:=(max (max K L+1) K)) ?_ xq⟩
  have hD:aL=D17:=cmp_natE aG
  rw[aq,aw,← hD,← add_same ac]
  exact (bc.ext bk)
 refine zzs (zzp ?_)
 refine zzd (zzz [0,1,3,0,8,24,56,127,0,256,768,0,2048,6144,14591,32767,65535,0,262143] [(0,[]),(1,[]),(2,[]),(3,[]),(4,[]),(5,[]),(8,[]),(9,[]),(10,[]),(11,[]),(12,[]),(13,[]),(17,[]),(6,[]),(7,[]),(14,[]),(15,[]),(16,[]),(18,[])] xj xj (zza 46 (.adr 5 0) (zza 47 (.adr 5 0) (zzi 48 (.v (.agg #[.bool aa.s,aa.m.v])) ty26 zze (zza 49 (.adr 6 0) (zza 50 (.adr 6 2) (zzi 51 (.v (ab.d.v)) ty24 zzl (zza 54 (.adr 6 0) (zza 55 (.adr 6 0) (zzi 56 (.v (.agg #[.bool ab.s,ab.m.v])) ty26 zze (zza 57 (.adr 5 0) ?_)))))))))))
 refine zza 58 (.adr 5 2) (zzi 59 (.v (aa.d.v)) ty24 zzl (zzk 7 ⟨26,[.bool false,qyn]⟩ (zzg 52 76 _ fun _ _ al bg=>qym (k_natural (x:=ab.d) bg) ?_)))
 rintro _ bX ah rfl
 refine zzg 53 75 _ fun _ _ ak a4=>qym (k_intMul a4 (au.ext (ag.t (aj.t (ap.t (aC.t (al.t (ah.t ak))))))) (nat_int (ai.ext (ap.t (aC.t (al.t (ah.t ak)))))) xq xq) ?_
 rintro _ bJ aD ⟨b4,rfl,bb⟩
 refine zzg 60 76 _ fun _ _ ay br=>qym (k_natural (x:=aa.d) br) ?_
 rintro _ bR am rfl
 refine zzg 61 75 _ fun _ _ ao bi=>qym (k_intMul bi (ax.ext (ap.t (aC.t (al.t (ah.t (ak.t (aD.t (ay.t (am.t ao))))))))) (nat_int (ae.ext (ag.t (aj.t (ap.t (aC.t (al.t (ah.t (ak.t (aD.t (ay.t (am.t ao)))))))))))) xq xq) ?_
 rintro _ cf aH ⟨cd,rfl,a6⟩
 refine zzg 62 79 _ fun _ _ aF a8=>qym (k_intAdd a8 (bb.ext (ay.t (am.t (ao.t (aH.t aF))))).raw (a6.ext aF).raw xq xq) ?_
 rintro _ bT aV ⟨av,rfl,bo⟩
 refine zzj ⟨26,av.cs⟩ ty26 ?_
 refine zzc 73 [(4,.adr 4 0),(5,.adr 5 0),(6,.adr 6 0),(7,.adr 7 0)] [(4,⟨28,zw3⟩),(5,⟨96,aa.cs++[.bool af]⟩),(6,⟨96,ab.cs++[.bool ad]⟩),(7,⟨26,av.cs⟩)] (zzd (zzz [0,0,2,6,0,16,48,126,255,511,1023] [(0,[]),(1,[]),(2,[]),(3,[]),(4,[]),(5,[]),(6,[]),(7,[]),(8,[]),(9,[]),(10,[])] xj xj (zzi 63 (.v (av.v)) ty26 zze (zza 64 (.adr 5 0) (zza 65 (.adr 5 2) (zzi 66 (.v (aa.d.v)) ty24 zzl (zza 67 (.adr 6 0) (zza 68 (.adr 6 2) (zzi 69 (.v (ab.d.v)) ty24 zzl (zzg 70 81 _ fun _ _ aK a7=>qym (k_natMul a7 (ae.ext (ag.t (aj.t (ap.t (aC.t (al.t (ah.t (ak.t (aD.t (ay.t (am.t (ao.t (aH.t (aF.t (aV.t aK))))))))))))))) (ai.ext (ap.t (aC.t (al.t (ah.t (ak.t (aD.t (ay.t (am.t (ao.t (aH.t (aF.t (aV.t aK))))))))))))) xq xq) ?_))))))))))
 rintro _ bW a3 ⟨a5,rfl,ba⟩
 refine zza 71 (.v (.agg #[.bool av.s,av.m.v,a5.v])) (zzg 72 78 _ fun _ _ aY a9=>qym (k_lowest a9 (bo.ext (aK.t (a3.t aY))).raw (ba.ext aY).raw (Nat.mul_pos ac aB) xq xq) ?_)
 rintro _ bV b7 ⟨aI,rfl,be⟩
 refine zzj ⟨28,aI.cs⟩ ty28 ?_
 refine zzb (zzo (ret0 [aI.v] ⟨zzr ty28 zze,trivial⟩ fun ce bv=>?_))
 refine ⟨aI,rfl,RatN.more (K:=(max (max (K+L) (L+K)+1) (K+L))) ?_ xq⟩
 rw[aq,aw,← add_mk ac aB]
 exact (be.ext bv)
theorem k_ratSub {u w:World} {r1:RL} {x:Rat} {K:Nat} {r2:RL} {y:Rat} {L:Nat} (d:Dat u w) (hr1:RatV u r1 x K) (hr2:RatV u r2 y L) (hK:K≤200000000) (hL:L≤200000000):qyc 26 #[r1.v,r2.v] w (Post u w fun v u'=>∃r:RL,v=r.v∧RatN u' r (x - y) (K+L+1)):=by
 refine zzm Tryz.func26 rfl Tryz.ntmps26 Tryz.results26 d ?_
 refine sq9 (zzk 2 ⟨28,r1.cs⟩ (zzk 3 ⟨28,r2.cs⟩ (zzk 4 ⟨28,zw3⟩ (zzb (zzd (zzz [0,0,2,7,15] [(0,[]),(1,[]),(2,[]),(3,[]),(4,[])] xj xj (zzi 5 (.v (r1.v)) ty28 zze (zzi 6 (.v (r2.v)) ty28 zze (zzg 7 82 _ fun _ _ ad ae=>qym (k_flip (r:=r2) ae) ?_)))))))))
 rintro _ u12 ab rfl
 refine zzg 8 25 _ fun _ _ ac af=>qym (k_ratAdd af (hr1.ext (ad.t (ab.t ac))) ((flip_rat (hr2.ext (ad.t ab.ext))).ext ac) xq xq) ?_
 rintro _ u18 g19 ⟨aa,rfl,ag⟩
 refine zzj ⟨28,aa.cs⟩ ty28 ?_
 refine zzb (zzo (ret0 [aa.v] ⟨zzr ty28 zze,trivial⟩ fun u21 ah=>?_))
 refine ⟨aa,rfl,RatN.more (K:=(K+L+1)) ?_ xq⟩
 rw[Rat.sub_eq_add_neg]
 exact (ag.ext ah)
theorem k_ratMul {u w:World} {r1:RL} {x:Rat} {K:Nat} {r2:RL} {y:Rat} {L:Nat} (d:Dat u w) (hr1:RatV u r1 x K) (hr2:RatV u r2 y L) (hK:K≤200000000) (hL:L≤200000000):qyc 28 #[r1.v,r2.v] w (Post u w fun v u'=>∃r:RL,v=r.v∧RatN u' r (x*y) (K+L)):=by
 refine zzm Tryz.func28 rfl Tryz.ntmps28 Tryz.results28 d ?_
 refine sq9 (zzk 2 ⟨28,r1.cs⟩ (zzk 3 ⟨28,r2.cs⟩ (zzk 4 ⟨28,zw3⟩ (zzb (zzd (zzz [0,1,0,7,0,0,63,127] [(0,[]),(2,[]),(4,[]),(5,[]),(1,[]),(3,[]),(6,[]),(7,[])] xj xj (zzi 8 (.v (r1.v)) ty28 zze (zzi 10 (.v (r2.v)) ty28 zze (zzk 5 ⟨96,[.bool false,qyn,qyn,.bool false]⟩ (zzk 6 ⟨96,[.bool false,qyn,qyn,.bool false]⟩ (zzg 9 73 _ fun _ _ aD aS=>qym (k_read aS (hr1.ext aD)) ?_)))))))))))
 rintro _ u13 aV ⟨al,ac,rfl,z12,D12,aw,ai,aj,af,ax,aL⟩
 refine zzg 11 73 _ fun _ _ ap a3=>qym (k_read a3 (hr2.ext (aD.t (aV.t ap)))) ?_
 rintro _ u18 ar ⟨ak,ab,rfl,z17,D17,au,am,ah,ae,av,aO⟩
 refine zzj ⟨96,al.cs++[.bool ac]⟩ ty96 ?_
 refine zzj ⟨96,ak.cs++[.bool ab]⟩ ty96 ?_
 refine zzb (sq9 (zza 12 (.adr 5 0) (zza 13 (.adr 5 0) (zzi 14 (.v (.agg #[.bool al.s,al.m.v])) ty26 zze (zza 15 (.adr 6 0) (zza 16 (.adr 6 0) (zzi 17 (.v (.agg #[.bool ak.s,ak.m.v])) ty26 zze (zzg 18 75 _ fun _ _ ag aT=>qym (k_intMul aT (aw.ext (ap.t (ar.t ag))) (au.ext ag) xq xq) ?_))))))))
 rintro _ u24 an ⟨aa,rfl,ay⟩
 refine zzk 7 ⟨26,[.bool false,qyn]⟩ (zzj ⟨26,aa.cs⟩ ty26 ?_)
 refine zzb (zzd (sq9 (zza 19 (.adr 5 3) (zzi 20 (zB ac) ty4 zzl ?_))))
 rcases Bool.eq_false_or_eq_true ac with hs27 | hs27
 ·refine qbi 21 hs27 (zza 22 (.adr 6 3) ?_ (hw:=w1 2 true 21))
  refine zzi 23 (zB ab) ty4 zzl ?_ (hw:=w1 2 true 21)
  refine zza 24 (zB ab) (zzb (zzu (b:=ab) xj (fun ad=>?_) (fun ad=>?_)))
  ·replace ad:ab=true:=ad
   refine sq9 (zzi 25 (.v (aa.v)) ty26 zze (zzg 26 71 _ fun _ _ aM aU=>qym (k_whole (i:=aa) aU) ?_))
   rintro _ u32 aW ⟨aC,rfl,a2⟩
   refine zzj ⟨28,aa.cs++[aC.v]⟩ ty28 ?_
   refine zzb (zzo (zzw (ret0 [.agg #[.bool aa.s,aa.m.v,aC.v]] ⟨zzr ty28 zze,trivial⟩ fun u35 aN=>?_)))
   refine ⟨(⟨aa.s,aa.m,aC⟩:RL),rfl,RatN.more (K:=(max (K+L) 1)) ?_ xq⟩
   rw[af,ae,ax (by assumption),av (by assumption),mk_one,mk_one,← Rat.intCast_mul]
   exact ((whole_rat (ay.ext (aM.t aW.ext)) a2).ext aN)
  replace ad:ab=false:=ad
  refine zzs (zzp ?_)
  refine zzd (zzz [0,0,2,6,0,16,48,126,255,511,1023] [(0,[]),(1,[]),(2,[]),(3,[]),(4,[]),(5,[]),(6,[]),(7,[]),(8,[]),(9,[]),(10,[])] xj xj (zzi 27 (.v (aa.v)) ty26 zze (zza 28 (.adr 5 0) (zza 29 (.adr 5 2) (zzi 30 (.v (al.d.v)) ty24 zzl (zza 31 (.adr 6 0) (zza 32 (.adr 6 2) (zzi 33 (.v (ak.d.v)) ty24 zzl (zzg 34 81 _ fun _ _ aA aQ=>qym (k_natMul aQ (ai.ext (ap.t (ar.t (ag.t (an.t aA))))) (am.ext (ag.t (an.t aA))) xq xq) ?_)))))))))
  rintro _ u40 aY ⟨aZ,rfl,aI⟩
  refine zza 35 (.v (.agg #[.bool aa.s,aa.m.v,aZ.v])) (zzg 36 78 _ fun _ _ aF aR=>qym (k_lowest aR (ay.ext (aA.t (aY.t aF))).raw (aI.ext aF).raw (Nat.mul_pos aj ah) xq xq) ?_)
  rintro _ u46 g47 ⟨ao,rfl,aK⟩
  refine zzj ⟨28,ao.cs⟩ ty28 ?_
  refine zzc 37 [(4,.adr 4 0)] [(4,⟨28,ao.cs⟩)] (zzo (ret0 [ao.v] ⟨zzr ty28 zze,trivial⟩ fun u49 aH=>?_))
  refine ⟨ao,rfl,RatN.more (K:=(max (K+L) (K+L))) ?_ xq⟩
  rw[af,ae,← mul_mk]
  exact (aK.ext aH)
 refine qbi 21 hs27 (zzn 22 (uw 2 true false 21) (zzn 23 (uw 2 true false 21) (zza 24 (zB false) (zzb (zys xj (zzs (zzp ?_)))))))
 refine zzd (zzz [0,0,2,6,0,16,48,126,255,511,1023] [(0,[]),(1,[]),(2,[]),(3,[]),(4,[]),(5,[]),(6,[]),(7,[]),(8,[]),(9,[]),(10,[])] xj xj (zzi 27 (.v (aa.v)) ty26 zze (zza 28 (.adr 5 0) (zza 29 (.adr 5 2) (zzi 30 (.v (al.d.v)) ty24 zzl (zza 31 (.adr 6 0) (zza 32 (.adr 6 2) (zzi 33 (.v (ak.d.v)) ty24 zzl (zzg 34 81 _ fun _ _ aB a0=>qym (k_natMul a0 (ai.ext (ap.t (ar.t (ag.t (an.t aB))))) (am.ext (ag.t (an.t aB))) xq xq) ?_)))))))))
 rintro _ u54 a1 ⟨a4,rfl,aX⟩
 refine zza 35 (.v (.agg #[.bool aa.s,aa.m.v,a4.v])) (zzg 36 78 _ fun _ _ aE aG=>qym (k_lowest aG (ay.ext (aB.t (a1.t aE))).raw (aX.ext aE).raw (Nat.mul_pos aj ah) xq xq) ?_)
 rintro _ u60 g61 ⟨aq,rfl,aP⟩
 refine zzj ⟨28,aq.cs⟩ ty28 ?_
 refine zzc 37 [(4,.adr 4 0)] [(4,⟨28,aq.cs⟩)] (zzo (ret0 [aq.v] ⟨zzr ty28 zze,trivial⟩ fun u63 aJ=>?_))
 refine ⟨aq,rfl,RatN.more (K:=(max (K+L) (K+L))) ?_ xq⟩
 rw[af,ae,← mul_mk]
 exact (aP.ext aJ)
theorem k_ratFrac {u w:World} {a b:Int} (d:Dat u w) (ha0 : -9223372036854775808≤a) (ha1:a≤9223372036854775807) (hb0 : -9223372036854775808≤b) (hb1:b≤9223372036854775807):qyc 147 #[.int .i64 a,.int .i64 b] w (Post u w fun v u'=>∃r:RL,v=r.v∧RatN u' r ((a:Rat) / (b:Rat)) 2):=by
 refine zzm Tryz.func147 rfl Tryz.ntmps147 Tryz.results147 d ?_
 refine sq9 (zzk 4 ⟨28,zw3⟩ (zzb (zzd (sq9 (zza 5 (zI b) (zza 6 (zB (b==0)) (zzb (zzu (b:=b==0) xj (fun aa=>?_) (fun aa=>?_)))))))))
 ·refine sq9 (zzg 7 23 _ fun _ _ _ au=>qym (k_ratOf au (z:=0) xq xq) ?_)
  rintro _ u15 g16 ⟨ac,rfl,an⟩
  refine zzj ⟨28,ac.cs⟩ ty28 ?_
  refine zzb (zzo (zzw (ret0 [ac.v] ⟨zzr ty28 zze,trivial⟩ fun u18 aw=>?_)))
  refine ⟨ac,rfl,RatN.more (K:=2) ?_ xq⟩
  have hb0:b=0:=by simpa using aa
  rw[hb0];simp[Rat.div_def];exact (an.ext aw)
 have hb0:0<b.natAbs:=by simp at aa;omega
 refine zzs (zzp ?_)
 refine sq9 (zza 8 (zI a) (zzg 9 72 _ fun _ _ _ aq=>qym (k_intOf aq (z:=a) xq xq) ?_))
 rintro _ u23 g24 ⟨ar,rfl,ap⟩
 refine zza 10 (zI b) (zzg 11 72 _ fun _ _ am aj=>qym (k_intOf aj (z:=b) xq xq) ?_)
 rintro _ u29 ak ⟨al,rfl,ag⟩
 refine zzg 12 77 _ fun _ _ ab ah=>qym (k_quotient (i:=ar) (j:=al) ah) ?_
 rintro _ u33 ad rfl
 refine zzg 13 78 _ fun _ _ af ai=>qym (k_lowest ai ((quot_int (ap.ext (am.t (ak.t (ab.t ad.ext)))) (ag.ext (ab.t ad.ext))).ext af) ((int_mag (ag.ext (ab.t ad.ext))).ext af).raw hb0 xq xq) ?_
 rintro _ u39 g40 ⟨ae,rfl,ao⟩
 refine zzj ⟨28,ae.cs⟩ ty28 ?_
 refine zzb (zzo (ret0 [ae.v] ⟨zzr ty28 zze,trivial⟩ fun u42 av=>?_))
 refine ⟨ae,rfl,RatN.more (K:=(max 2 2)) ?_ xq⟩
 rw[← div_mk2 xq]
 exact (ao.ext av)
def DivR (x y:Rat) (K:Nat) (v:Value) (u:World):Prop:=(v=.tuple #[.agg #[.bool false,qyn,qyn],.int .i64 3]∧y=0)∨(y≠0∧∃r:RL,v=.tuple #[r.v,.int .i64 0]∧RatN u r (x / y) K)
theorem k_ratDiv {u w:World} {r1:RL} {x:Rat} {K:Nat} {r2:RL} {y:Rat} {L:Nat} (d:Dat u w) (hr1:RatV u r1 x K) (hr2:RatV u r2 y L) (hK:K≤200000000) (hL:L≤200000000):qyc 24 #[r1.v,r2.v] w (Post u w fun v u'=>DivR x y (K+L) v u'):=by
 refine zzm Tryz.func24 rfl Tryz.ntmps24 Tryz.results24 d ?_
 refine sq9 (zzk 2 ⟨28,r1.cs⟩ (zzk 3 ⟨28,r2.cs⟩ (zzk 4 ⟨28,zw3⟩ (zza 5 (zI 0) (zzb (zzd (zzz [0,1,0,7,0,0,63,127] [(0,[]),(2,[]),(4,[]),(5,[]),(1,[]),(3,[]),(6,[]),(7,[])] xj xj (zzi 10 (.v (r1.v)) ty28 zze (zzi 12 (.v (r2.v)) ty28 zze (zzk 6 ⟨96,[.bool false,qyn,qyn,.bool false]⟩ (zzk 7 ⟨96,[.bool false,qyn,qyn,.bool false]⟩ ?_)))))))))))
 refine zzg 11 73 _ fun _ _ aH aR=>qym (k_read aR (hr1.ext aH)) ?_
 rintro _ u13 aW ⟨ae,au,rfl,z12,aL,aA,aq,ar,aD,a0,aO⟩
 refine zzg 13 73 _ fun _ _ ax a3=>qym (k_read a3 (hr2.ext (aH.t (aW.t ax)))) ?_
 rintro _ u18 aG ⟨ab,av,rfl,ah,D17,ad,aE,ap,aa,aX,aQ⟩
 refine zzj ⟨96,ae.cs++[.bool au]⟩ ty96 ?_
 refine zzj ⟨96,ab.cs++[.bool av]⟩ ty96 ?_
 refine zzb (zzd (sq9 (zza 14 (.adr 7 0) (zza 15 (.adr 7 0) (zzi 16 (.v (.agg #[.bool ab.s,ab.m.v])) ty26 zze (zzg 17 74 _ fun _ _ af aS=>qym (k_intSign aS (ad.ext af)) ?_))))))
 rintro _ u22 ak rfl
 refine zza 18 (zB ((cmpS ah 0)==0)) (zzb (zzu (b:=(cmpS ah 0)==0) xj (fun ac=>?_) (fun ac=>?_)))
 ·refine sq9 (zza 19 (.v (.agg #[.bool false,qyn,qyn])) (zzj ⟨28,zw3⟩ ty28 ?_))
  refine zza 5 (zI 3) (zzb (zzo (zzw (ret0 [.agg #[.bool false,qyn,qyn],.int .i64 3] ⟨zzr ty28 zze,zzq,trivial⟩ fun u26 e27=>?_))))
  left
  exact ⟨rfl,by rw[aa,cmp_eq0 ac,Rat.zero_mkRat]⟩
 have ay:ah≠0:=cmp_ne0 ac
 have hpp:0<((aL:Int)*ah:Int).natAbs:=Int.natAbs_pos.2 (Int.mul_ne_zero xq ay)
 refine zzs (zzp ?_)
 refine zzd (zzz [0,1,3,0,8,24,56,127,0,511] [(0,[]),(1,[]),(2,[]),(3,[]),(4,[]),(5,[]),(8,[]),(6,[]),(7,[]),(9,[])] xj xj (zza 20 (.adr 6 0) (zza 21 (.adr 6 0) (zzi 22 (.v (.agg #[.bool ae.s,ae.m.v])) ty26 zze (zza 23 (.adr 7 0) (zza 24 (.adr 7 2) (zzi 25 (.v (ab.d.v)) ty24 zzl (zzk 8 ⟨26,[.bool false,qyn]⟩ (zzg 26 76 _ fun _ _ al aU=>qym (k_natural (x:=ab.d) aU) ?_)))))))))
 rintro _ u29 ai rfl
 refine zzg 27 75 _ fun _ _ ag aP=>qym (k_intMul aP (aA.ext (ax.t (aG.t (af.t (ak.t (al.t (ai.t ag))))))) (nat_int (aE.ext (af.t (ak.t (al.t (ai.t ag)))))) xq xq) ?_
 rintro _ u35 aJ ⟨aj,rfl,aM⟩
 refine zzj ⟨26,aj.cs⟩ ty26 ?_
 refine zzb (zzd (zzz [0,1,3,7,0,16,48,127,0,511] [(0,[]),(1,[]),(2,[]),(4,[]),(5,[]),(6,[]),(8,[]),(3,[]),(7,[]),(9,[])] xj xj (zza 28 (.adr 6 0) (zza 29 (.adr 6 2) (zzi 30 (.v (ae.d.v)) ty24 zzl (zza 32 (.adr 7 0) (zza 33 (.adr 7 0) (zzi 34 (.v (.agg #[.bool ab.s,ab.m.v])) ty26 zze (zzk 9 ⟨26,[.bool false,qyn]⟩ (zzg 31 76 _ fun _ _ aB aT=>qym (k_natural (x:=ae.d) aT) ?_))))))))))
 rintro _ u39 ao rfl
 refine zzg 35 75 _ fun _ _ aw aN=>qym (k_intMul aN (nat_int (aq.ext (ax.t (aG.t (af.t (ak.t (al.t (ai.t (ag.t (aJ.t (aB.t (ao.t aw)))))))))))) (ad.ext (af.t (ak.t (al.t (ai.t (ag.t (aJ.t (aB.t (ao.t aw))))))))) xq xq) ?_
 rintro _ u45 aV ⟨am,rfl,aI⟩
 refine zzj ⟨26,am.cs⟩ ty26 ?_
 refine zzc 40 [(4,.adr 4 0),(8,.adr 8 0),(9,.adr 9 0)] [(4,⟨28,zw3⟩),(8,⟨26,aj.cs⟩),(9,⟨26,am.cs⟩)] (sq9 (zzi 36 (.v (aj.v)) ty26 zze (zzi 37 (.v (am.v)) ty26 zze (zzg 38 77 _ fun _ _ aF a2=>qym (k_quotient (i:=aj) (j:=am) a2) ?_))))
 rintro _ u49 an rfl
 refine zzg 39 78 _ fun _ _ aK aZ=>qym (k_lowest aZ ((quot_int (aM.ext (aB.t (ao.t (aw.t (aV.t (aF.t an.ext)))))) (aI.ext (aF.t an.ext))).ext aK) ((int_mag (aI.ext (aF.t an.ext))).ext aK).raw hpp xq xq) ?_
 rintro _ u55 g56 ⟨aC,rfl,aY⟩
 refine zzj ⟨28,aC.cs⟩ ty28 ?_
 refine zza 5 (zI 0) (zzb (zzo (ret0 [aC.v,.int .i64 0] ⟨zzr ty28 zze,zzq,trivial⟩ fun u58 a1=>?_)))
 right
 refine ⟨?_,aC,rfl,RatN.more (K:=(max (K+L) (K+L))) ?_ xq⟩
 ·rw[aa];exact (Rat.mkRat_ne_zero xq).2 ay
 rw[aD,aa,← quo_mk ar ap ay,← div_mk2 xq]
 exact (aY.ext a1)
theorem k_ends {u w:World} {a1 a2:RL} {x1 x2:Rat} {K:Nat} (d:Dat u w) (ha1:RatV u a1 x1 K) (ha2:RatV u a2 x2 K) (hK:K≤200000000):qyc 202 #[IV a1 a2] w (Post u w fun v u'=>∃p q:RL,v=.tuple #[p.v,q.v]∧RatV u' p (Nt.lo x1 x2) K∧RatV u' q (Nt.hi x1 x2) K):=by
 refine zzm Tryz.func202 rfl Tryz.ntmps202 Tryz.results202 d ?_
 refine sq9 (zzk 1 ⟨57,a1.cs++a2.cs⟩ (zzk 2 ⟨28,zw3⟩ (zzk 3 ⟨28,zw3⟩ (zzb (zzd (sq9 (zza 4 (.adr 1 0) (zzi 5 (.v (a1.v)) ty28 zze (zza 6 (.adr 1 3) (zzi 7 (.v (a2.v)) ty28 zze (zzg 8 125 _ fun _ _ ab af=>qym (k_ratCompare af (ha1.ext ab) (ha2.ext ab) xq xq) ?_)))))))))))
 rintro _ u12 ac rfl
 refine zza 9 (zB (decide ((0:Int)<(cmpQ x1 x2)))) (zzb (zzu (b:=decide ((0:Int)<(cmpQ x1 x2))) xj (fun aa=>?_) (fun aa=>?_)))
 ·have qhb15:=qyt aa
  refine zzd (zzz [0,1,0,4,3,31] [(0,[]),(1,[]),(2,[]),(3,[]),(4,[12]),(5,[])] xj xj (zza 10 (.adr 1 3) (zzi 11 (.v (a2.v)) ty28 zze (zza 12 (.adr 1 0) (zzi 13 (.v (a1.v)) ty28 zze (zzj ⟨28,a2.cs⟩ ty28 ?_))))))
  refine zzj ⟨28,a1.cs⟩ ty28 ?_
  refine zzb (zzo (zzw (ret0 [a2.v,a1.v] ⟨zzr ty28 zze,zzr ty28 zze,trivial⟩ fun u16 ad=>?_)))
  refine ⟨a2,a1,rfl,?_,?_⟩
  ·rw[(ends_gt aa).1];exact (ha2.ext (ab.t (ac.t ad)))
  rw[(ends_gt aa).2];exact (ha1.ext (ab.t (ac.t ad)))
 have qhb15:=qyf aa
 refine zzs (zzp ?_)
 refine zzd (zzz [0,1,0,4,3,31] [(0,[]),(1,[]),(2,[]),(3,[]),(4,[16]),(5,[])] xj xj (zza 14 (.adr 1 0) (zzi 15 (.v (a1.v)) ty28 zze (zza 16 (.adr 1 3) (zzi 17 (.v (a2.v)) ty28 zze (zzj ⟨28,a1.cs⟩ ty28 ?_))))))
 refine zzj ⟨28,a2.cs⟩ ty28 ?_
 refine zzb (zzo (ret0 [a1.v,a2.v] ⟨zzr ty28 zze,zzr ty28 zze,trivial⟩ fun u18 ae=>?_))
 refine ⟨a1,a2,rfl,?_,?_⟩
 ·rw[(ends_le aa).1];exact (ha1.ext (ab.t (ac.t ae)))
 rw[(ends_le aa).2];exact (ha2.ext (ab.t (ac.t ae)))
theorem k_ivMake {u w:World} {a:RL} {x:Rat} {b:RL} {y:Rat} {K:Nat} (d:Dat u w) (ha:RatV u a x K) (hb:RatV u b y K) (hK:K≤100000000):qyc 179 #[a.v,b.v] w (Post u w fun v u'=>∃p q:RL,v=IV p q∧RatN u' p (Nt.lo x y) K∧RatN u' q (Nt.hi x y) K):=by
 refine zzm Tryz.func179 rfl Tryz.ntmps179 Tryz.results179 d ?_
 refine sq9 (zzk 2 ⟨28,a.cs⟩ (zzk 3 ⟨28,b.cs⟩ (zzk 4 ⟨57,zw6⟩ (zzb (sq9 (zzi 8 (.v (a.v)) ty28 zze (zzi 9 (.v (b.v)) ty28 zze (zza 10 (.v (.agg #[.bool a.s,a.m.v,a.d.v,.bool b.s,b.m.v,b.d.v])) (zzg 11 202 _ fun _ _ ag aj=>qym (k_ends aj (ha.ext ag) (hb.ext ag) xq) ?_)))))))))
 rintro _ u16 g17 ⟨ac,ad,rfl,ai,ap⟩
 refine zza 7 (.v (.tuple #[ac.v,ad.v])) (zza 12 (.v (ac.v)) (zza 13 (.v (ad.v)) (zzk 5 ⟨28,zw3⟩ (zzk 6 ⟨28,zw3⟩ (zzj ⟨28,ac.cs⟩ ty28 ?_)))))
 refine zzj ⟨28,ad.cs⟩ ty28 ?_
 refine zzb (zzd (zzz [0,1,0,7,15,31] [(0,[]),(2,[]),(1,[]),(3,[]),(4,[]),(5,[])] xj xj (zzi 14 (.v (ac.v)) ty28 zze (zzi 16 (.v (ad.v)) ty28 zze (zzg 15 84 _ fun _ _ ah aq=>qym (k_ratTrim aq (ai.ext ah) xq) ?_)))))
 rintro _ u22 an ⟨aa,rfl,ak⟩
 refine zzg 17 84 _ fun _ _ af al=>qym (k_ratTrim al (ap.ext (ah.t (an.t af))) xq) ?_
 rintro _ u28 ao ⟨ab,rfl,am⟩
 refine zza 18 (.v (.agg #[.bool aa.s,aa.m.v,aa.d.v,.bool ab.s,ab.m.v,ab.d.v])) (zzj ⟨57,aa.cs++ab.cs⟩ ty57 ?_)
 refine zzb (zzo (ret0 [.agg #[.bool aa.s,aa.m.v,aa.d.v,.bool ab.s,ab.m.v,ab.d.v]] ⟨zzr ty57 zze,trivial⟩ fun u31 ae=>?_))
 refine ⟨aa,ab,rfl,RatN.more (K:=K) ?_ xq,RatN.more (K:=K) ?_ xq⟩
 ·exact (ak.ext (af.t (ao.t ae)))
 exact (am.ext ae)
theorem k_ratDiv1 {u w:World} {r1 r2:RL} {x y:Rat} {K L:Nat} (d:Dat u w) (hr1:RatV u r1 x K) (hr2:RatV u r2 y L) (hy:y≠0) (hK:K≤200000000) (hL:L≤200000000):qyc 24 #[r1.v,r2.v] w (Post u w fun v u'=>∃r:RL,v=.tuple #[r.v,.int .i64 0]∧RatN u' r (x / y) (K+L)) :=
 qym (k_ratDiv d hr1 hr2 hK hL) fun v u' _ h=>h.elim (fun h=>absurd h.2 hy) (fun h=>h.2)
theorem k_r4Trim {u w:World} {a1 a2:RL} {x1 x2:Rat} {K:Nat} (d:Dat u w) (ha1:RatV u a1 x1 K) (ha2:RatV u a2 x2 K) (hK:K≤100000000):qyc 156 #[IV a1 a2] w (Post u w fun v u'=>∃p q:RL,v=IV p q∧RatN u' p (Nt.lo x1 x2) K∧RatN u' q (Nt.hi x1 x2) K):=by
 refine zzm Tryz.func156 rfl Tryz.ntmps156 Tryz.results156 d ?_
 refine sq9 (zzk 1 ⟨57,a1.cs++a2.cs⟩ (zzk 2 ⟨57,zw6⟩ (zzb (zzd (zzz [0,1,0,4,15,0,32,0,128,511,1023,2047] [(0,[]),(1,[]),(2,[]),(3,[]),(5,[]),(6,[]),(7,[]),(8,[]),(4,[]),(9,[]),(10,[]),(11,[])] xj xj (zza 3 (.adr 1 0) (zzi 4 (.v (a1.v)) ty28 zze (zza 5 (.adr 1 3) (zzi 6 (.v (a2.v)) ty28 zze (zza 8 (.adr 1 0) (zzi 9 (.v (a1.v)) ty28 zze ?_)))))))))))
 refine zza 10 (.adr 1 3) (zzi 11 (.v (a2.v)) ty28 zze (zzg 7 161 _ fun _ _ ac ag=>qym (k_rqMin ag (ha1.ext ac) (ha2.ext ac) xq xq) ?_))
 rintro _ u14 ae ⟨ab,rfl,ai⟩
 refine zzg 12 162 _ fun _ _ ad ah=>qym (k_rqMax ah (ha1.ext (ac.t (ae.t ad))) (ha2.ext (ac.t (ae.t ad))) xq xq) ?_
 rintro _ u20 aj ⟨aa,rfl,ak⟩
 refine zza 13 (.v (.agg #[.bool ab.s,ab.m.v,ab.d.v,.bool aa.s,aa.m.v,aa.d.v])) (zzj ⟨57,ab.cs++aa.cs⟩ ty57 ?_)
 refine zzb (zzo (ret0 [.agg #[.bool ab.s,ab.m.v,ab.d.v,.bool aa.s,aa.m.v,aa.d.v]] ⟨zzr ty57 zze,trivial⟩ fun u23 af=>?_))
 refine ⟨ab,aa,rfl,RatN.more (K:=(max K K)) ?_ xq,RatN.more (K:=(max K K)) ?_ xq⟩
 ·exact (ai.ext (ad.t (aj.t af)))
 exact (ak.ext af)
theorem k_r4Make {u w:World} {a:RL} {x:Rat} {b:RL} {y:Rat} {K:Nat} (d:Dat u w) (ha:RatV u a x K) (hb:RatV u b y K) (hK:K≤100000000):qyc 100 #[a.v,b.v] w (Post u w fun v u'=>∃p q:RL,v=IV p q∧RatN u' p (Nt.lo x y) K∧RatN u' q (Nt.hi x y) K):=by
 refine zzm Tryz.func100 rfl Tryz.ntmps100 Tryz.results100 d ?_
 refine sq9 (zzk 2 ⟨28,a.cs⟩ (zzk 3 ⟨28,b.cs⟩ (zzk 4 ⟨57,zw6⟩ (zzb (sq9 (zzi 5 (.v (a.v)) ty28 zze (zzi 6 (.v (b.v)) ty28 zze (zza 7 (.v (.agg #[.bool a.s,a.m.v,a.d.v,.bool b.s,b.m.v,b.d.v])) (zzg 8 156 _ fun _ _ ad ae=>qym (k_r4Trim ae (ha.ext ad) (hb.ext ad) xq) ?_)))))))))
 rintro _ u16 g17 ⟨aa,ab,rfl,af,ag⟩
 refine zzj ⟨57,aa.cs++ab.cs⟩ ty57 ?_
 refine zzb (zzo (ret0 [.agg #[.bool aa.s,aa.m.v,aa.d.v,.bool ab.s,ab.m.v,ab.d.v]] ⟨zzr ty57 zze,trivial⟩ fun u19 ac=>?_))
 refine ⟨aa,ab,rfl,RatN.more (K:=K) ?_ xq,RatN.more (K:=K) ?_ xq⟩
 ·exact (af.ext ac)
 exact (ag.ext ac)
end Go.Proofs.YtedobdigeeflcaaGreat
