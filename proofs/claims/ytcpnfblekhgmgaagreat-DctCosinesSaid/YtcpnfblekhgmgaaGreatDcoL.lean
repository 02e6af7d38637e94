/- Parts of the proof: contracts of functions, each walked once, and plain laws. -/
import Derived.Test.YtcpnfblekhgmgaaGreatDcoK
import Derived.Laws.StructEq
import Derived.ChangeKeysEq
set_option linter.unusedVariables false
set_option maxHeartbeats 8000000
namespace Go.Proofs.YtcpnfblekhgmgaaGreat
open Nt
open Go.RowKit
theorem tdiv2{n:Int}(h0:-9223372036854775808≤n)(h1:n≤9223372036854775807):(-9223372036854775808≤n.tdiv 2∧n.tdiv 2≤9223372036854775807)∧(0≤n→n.tdiv 2=n/2)∧(n<0→n.tdiv 2≤0):=by
 have h:=Int.natAbs_tdiv n 2
 change (n.tdiv 2).natAbs=n.natAbs/2 at h
 refine⟨by omega,fun h2=>Int.tdiv_eq_ediv_of_nonneg h2,fun h2=>?_⟩;have e:n.tdiv 2=-((-n).tdiv 2):=by rw[Int.neg_tdiv,Int.neg_neg]
 have h3:=Int.tdiv_nonneg (show 0≤-n by omega) (show(0:Int)≤2 by decide)
 omega
theorem Nt.rn_half(q:Rat)(k:Nat):dnQ (q+((1:Int):Rat)/(((2^(k+1):Nat):Int):Rat)) k=Nt.gr k (nrZ q k):=by
 unfold dnQ nrZ
 rw[←mk_div]
 have e:(q+((1:Int):Rat)/(((2^(k+1):Nat):Int):Rat))*((2^k:Nat):Rat)=q*((2^k:Nat):Rat)+1/2:=by
  have h2:(0:Rat)<((2^k:Nat):Rat):=cast_pos (Nat.pow_pos xw);have h1:(((2^(k+1):Nat):Int):Rat)=((2^k:Nat):Rat)*2:=by rw[Nat.pow_succ,Int.natCast_mul,Rat.intCast_mul];rfl
  rw[h1,show((1:Int):Rat)=1 from rfl,Rat.add_mul]
  congr 1
  have h3:((2^k:Nat):Rat)≠0:=by grind
  generalize ((2^k:Nat):Rat)=P at *;rw[Rat.div_def,Rat.div_def,Rat.inv_mul_rev]
  grind
 rw[e]
 rfl
theorem k_r3Nearest{u w:World}{r:RL}{q:Rat}{K k:Nat}(hk:k≤255)(d:Dat u w)(hr:RatV u r q K)(hK:K≤100000):qyc 65 #[r.v,.int .i64 (k:Int)] w (Post u w fun v u'=>∃p:RL,v=.tuple #[p.v,.int .i64 0]∧RatN u' p (Nt.gr k (nrZ q k)) (K+200)):=by
 refine zzl Tryz.func65 rfl Tryz.ntmps65 Tryz.results65 d ?_;refine sq9 (zzj 2 ⟨35,r.cs⟩ (zzj 4 ⟨35,zw3⟩ (zza 5 (zI 0) (zzb (zzd (sq9 (zza 7 (zI k) (zzg 8 131 _ fun _ _ aj ay=>qym (k_bad (n:=(k:Int)) ay) ?_))))))));rintro _ u12 ao rfl;refine zzb (zzt (b:=decide ((k:Int)<0∨256<(k:Int))) xj (fun hb=>?_) (fun hb=>?_))
 ·exact absurd hb (by rw[show(decide ((k:Int)<0∨256<(k:Int)))=false from decide_eq_false xq];decide)
 clear hb;refine zzr (zzo ?_);refine sq9 (zzg 10 14 _ fun _ _ am ag=>qym (k_rqOf ag (z:=1) xq xq) ?_);rintro _ u18 al ⟨r16,rfl,ai⟩;refine zza 11 (zI k) (qwi 12 ((k:Int)+1) (k+1:Nat) xk (zzg 13 122 _ fun _ _ ac ak=>qym (k_unit (k:=k+1) ak xq) ?_));rintro _ u24 ae ⟨r22,rfl,ah⟩;refine zzg 14 64 _ fun _ _ ab aq=>qym (k_rqOver aq (ai.ext xe).raw (ah.ext ab).raw xq xq) ?_;rintro _ u30 ap ⟨af,rfl,au⟩;refine zzj 6 ⟨35,zw3⟩ (zzi ⟨35,af.cs⟩ ty35 ?_);refine zzb (sq9 (zzh 15 (.v (r.v)) ty35 zze (zzh 16 (.v (af.v)) ty35 zze (zzg 17 67 _ fun _ _ ad az=>qym (k_rqAdd az (hr.ext xe) (au.ext ad).raw xq xq) ?_))));rintro _ u36 g37 ⟨r34,rfl,an⟩;refine zza 18 (zI k) (zzg 19 132 _ fun _ _ av ax=>qym (k_rdown (k:=k) xq ax (an.ext av).raw xq) ?_);rintro _ u42 g43 ⟨aa,rfl,aw⟩;refine zzi ⟨35,aa.cs⟩ ty35 ?_;refine zza 5 (zI 0) (zzb (zzn (ret0 [aa.v,.int .i64 0] ⟨zzq ty35 zze,zzp,trivial⟩ fun u45 ar=>?_)));refine⟨aa,rfl,RatN.more (K:=((K+(2+((k+1)/32+2)+2)+2)+40)) ?_ xq⟩;have h9:=(aw.ext ar)
 rw[rn_half] at h9;exact h9
theorem Nt.cmpZ1{a b:Int}(h:a≤b):decide ((0:Int)<cmpQ (a:Rat) (b:Rat))=false:=by
 rw[cmpQ_gt];exact decide_eq_false (Rat.not_lt.2 (Rat.intCast_le_intCast.2 h))
theorem Nt.cmpZ2{a b:Int}(h:b≤a):decide (cmpQ (a:Rat) (b:Rat)<(0:Int))=false:=by
 rw[cmpQ_lt];exact decide_eq_false (Rat.not_lt.2 (Rat.intCast_le_intCast.2 h))
theorem Nt.cmpZ3{a b:Int}(h:decide (cmpQ (a:Rat) (b:Rat)≤(0:Int))=true):a≤b:=by
 rw[cmpQ_le] at h;exact Rat.intCast_le_intCast.1 (qyt h)
theorem Nt.cmpZ4{a b:Int}(h:decide (cmpQ (a:Rat) (b:Rat)≤(0:Int))=false):b<a:=by
 rw[cmpQ_le] at h;exact Rat.intCast_lt_intCast.1 (Rat.not_le.1 (qyf h))
theorem Nt.gr_two(k:Nat)(z:Int):Nt.gr k z*(((2^k:Nat):Int):Rat)=(z:Rat):=gr_mul k z
theorem k_r21Int{u w:World}{r:RL}{z:Int}{K:Nat}(d:Dat u w)(hr:RatV u r ((z:Int):Rat) K)(hz0:-1099511627776≤z)(hz1:z≤1099511627776)(hK:K≤100000):qyc 66 #[r.v] w (Post u w fun v _=>v=.tuple #[.int .i64 z,.bool true]):=by
 refine zzl Tryz.func66 rfl Tryz.ntmps66 Tryz.results66 d ?_;refine sq9 (zzj 1 ⟨35,r.cs⟩ (zza 2 (zI 0) (zza 3 (zB false) (zzb (zzd (zzd (zzy [0,0,3,7,15,31,31,127,255,511] [(0,[]),(1,[]),(2,[]),(3,[]),(4,[]),(5,[]),(6,[]),(7,[]),(8,[]),(9,[])] xj xj (zzh 7 (.v (r.v)) ty35 zze (zzg 8 14 _ fun _ _ af aD=>qym (k_rqOf aD (z:=1099511627776) xq xq) ?_)))))))));rintro _ u14 aj ⟨r12,rfl,aq⟩;refine zzg 9 12 _ fun _ _ ac au=>qym (k_rqCompare au (hr.ext xe) (aq.ext ac).raw xq xq) ?_;rintro _ u18 al rfl;refine zza 10 (zB (decide ((0:Int)<(cmpQ ((z:Int):Rat) ((1099511627776:Int):Rat))))) (zqB 11 (show(decide ((0:Int)<(cmpQ ((z:Int):Rat) ((1099511627776:Int):Rat))))=false from(cmpZ1 xq)) (zzh 12 (.v (r.v)) ty35 zze ?_ (hw:=w1 4 false 11)));refine zzg 13 14 _ (fun _ _ am aB=>qym (k_rqOf aB (z:=(-1099511627776)) xq xq) ?_) (hw:=w1 4 false 11);rintro _ u25 an ⟨r23,rfl,az⟩;refine zzg 14 12 _ (fun _ _ ae ay=>qym (k_rqCompare ay (hr.ext xe) (az.ext ae).raw xq xq) ?_) (hw:=w1 4 false 11);rintro _ ar aA rfl;refine zza 15 (zB (decide ((cmpQ ((z:Int):Rat) (((-1099511627776):Int):Rat))<0))) ?_ (hw:=w1 4 false 11);refine zza 16 (zB (decide ((cmpQ ((z:Int):Rat) (((-1099511627776):Int):Rat))<0))) (zzb (zzt (b:=decide ((cmpQ ((z:Int):Rat) (((-1099511627776):Int):Rat))<0)) xj (fun hb=>?_) (fun hb=>?_)))
 ·exact absurd hb (by rw[show(decide ((cmpQ ((z:Int):Rat) (((-1099511627776):Int):Rat))<0))=false from(cmpZ2 xq)];decide)
 clear hb;refine zzr (zzo ?_);refine sq9 (zza 4 (zI (-1099511627776)) (zza 5 (zI 1099511627776) (zzb (zzd (zzs (zym (I:=fun ak S' u'=>∃(lo:Int) (hi:Int),(ak=(hi-lo).toNat)∧(lo≤z)∧(z≤hi)∧(-1099511627776≤lo)∧(hi≤1099511627776)∧(S'=St.of 36 [(1,.adr 1 0),(4,zI lo),(5,zI hi)] [(1,⟨35,r.cs⟩)])∧(Ext ar u')) (fun m S u1 u2 e h=>by obtain⟨lo,hi,hm,p0,p1,p2,p3,hS,hE⟩:=h;exact⟨lo,hi,hm,p0,p1,p2,p3,hS,hE.trans e⟩) _ yq ⟨(-1099511627776),1099511627776,rfl,by omega,by omega,by omega,by omega,rfl,(Ext.refl _)⟩ ?_))))));rintro ak _ u32 ⟨lo,hi,ax,hl,hh,hl0,hh0,rfl,ai⟩;refine zzd (sq9 (zza 17 (zI lo) (zza 18 (zI hi) (zza 19 (zB (decide (lo<hi))) (zzb (zzt (b:=decide (lo<hi)) xj (fun ab=>?_) (fun ab=>?_)))))))
 ·have qhb33:=qyt ab;refine zzr (zzo ?_);refine zzs (sq9 (zza 20 (zI lo) (zza 21 (zI hi) (zza 22 (zI lo) (zyp 23 (x:=zI (IntKind.i64.wrap (hi-lo))) (zI (hi-lo)) yz (zyp 24 (x:=zI (IntKind.i64.wrap ((hi-lo)+1))) (zI ((hi-lo)+1)) yz (sy_quo 25 (n:=(hi-lo)+1) (m:=2) (((hi-lo)+1)/2) xw (by rw[Int.tdiv_eq_ediv_of_nonneg xq];exact IntWalk.i64_in _ xq) ?_)))))));refine zyp 26 (x:=zI (IntKind.i64.wrap (lo+(((hi-lo)+1)/2)))) (zI (lo+(((hi-lo)+1)/2))) yz (zza 6 (zI (lo+(((hi-lo)+1)/2))) (zzb (zzd (zzy [0,1,0,7,15] [(0,[]),(2,[]),(1,[]),(3,[]),(4,[])] xj xj (zza 27 (zI (lo+(((hi-lo)+1)/2))) (zzh 29 (.v (r.v)) ty35 zze (zzg 28 14 _ fun _ _ ag av=>qym (k_rqOf av (z:=lo+(((hi-lo)+1)/2)) xq xq) ?_)))))));rintro _ u37 ah ⟨r35,rfl,aw⟩;refine zzg 30 12 _ fun _ _ ad ap=>qym (k_rqCompare ap (aw.ext ad).raw (hr.ext xe) xq xq) ?_;rintro _ u41 ao rfl;refine zza 31 (zB (decide ((cmpQ ((lo+(((hi-lo)+1)/2):Int):Rat) ((z:Int):Rat))≤0))) (zzc 36 [(1,.adr 1 0),(4,zI lo),(5,zI hi),(6,zI (lo+(((hi-lo)+1)/2))),(31,zB (decide ((cmpQ ((lo+(((hi-lo)+1)/2):Int):Rat) ((z:Int):Rat))≤0)))] [(1,⟨35,r.cs⟩)] (zzt (b:=decide ((cmpQ ((lo+(((hi-lo)+1)/2):Int):Rat) ((z:Int):Rat))≤0)) xj (fun aa=>?_) (fun aa=>?_)))
  ·have qhb44:=qyt aa;have hmhb44:=cmpZ3 aa;refine zzf (zza 32 (zI (lo+(((hi-lo)+1)/2))) (zza 4 (zI (lo+(((hi-lo)+1)/2))) (zzw ?_)));refine⟨_,?_,_,by exact zzu _ _ _,lo+(((hi-lo)+1)/2),hi,rfl,by omega,by omega,by omega,by omega,rfl,(ai.t (ag.t (ah.t (ad.t ao.ext))))⟩
   omega
  have qhb44:=qyf aa;have hmhb44:=cmpZ4 aa;refine zzf (zza 33 (zI (lo+(((hi-lo)+1)/2))) (zyp 34 (x:=zI (IntKind.i64.wrap ((lo+(((hi-lo)+1)/2))-1))) (zI ((lo+(((hi-lo)+1)/2))-1)) yz (zza 5 (zI ((lo+(((hi-lo)+1)/2))-1)) (zzw ?_))));refine⟨_,?_,_,by exact zzu _ _ _,lo,(lo+(((hi-lo)+1)/2))-1,rfl,by omega,by omega,by omega,by omega,rfl,(ai.t (ag.t (ah.t (ad.t ao.ext))))⟩
  omega
 have qhb33:=qyf ab;refine zyb (zzo (sq9 (zza 35 (zI lo) (zza 2 (zI lo) (zza 3 (zB true) (zzb (zzn (ret0 [.int .i64 lo,.bool true] ⟨zzp,zzp,trivial⟩ fun u45 e46=>?_))))))));obtain rfl:lo=z:=by omega
 rfl
theorem k_r37word{u w:World}{r:RL}{q:Rat}{K k:Nat}(d:Dat u w)(hr:RatV u r q K)(hk2:k≤20)(h0:-2097152≤nrZ q k)(h1:nrZ q k≤2097152)(hK:K≤50000):qyc 23 #[r.v,.int .i64 (k:Int)] w (Post u w fun v _=>v=.int .i64 (nrZ q k)):=by
 have hpk:2^k≤2^20:=Nat.pow_le_pow_right xw hk2;have ak:(0:Int)≤((2^k:Nat):Int):=Int.natCast_nonneg _;have am:((2^k:Nat):Int)≤1048576:=Int.ofNat_le.2 hpk;refine zzl Tryz.func23 rfl Tryz.ntmps23 Tryz.results23 d ?_;refine sq9 (zzj 2 ⟨35,r.cs⟩ (zza 4 (zI 0) (zzb (sq9 (zzh 10 (.v (r.v)) ty35 zze (zza 11 (zI k) (zzg 12 65 _ fun _ _ ae ao=>qym (k_r3Nearest (k:=k) xq ao (hr.ext ae) xq) ?_)))))));rintro _ u14 g15 ⟨aa,rfl,af⟩;refine zza 9 (.v (.tuple #[aa.v,.int .i64 0])) (zza 13 (.v (aa.v)) (zza 14 (zI 0) (zzj 5 ⟨35,zw3⟩ (zzi ⟨35,aa.cs⟩ ty35 ?_))));refine zza 6 (zI 0) (zzb (zzd (zzy [0,0,2,6,14,31,63,127,255,255,511,2047] [(0,[]),(1,[]),(2,[]),(3,[]),(4,[]),(5,[]),(6,[]),(7,[]),(8,[]),(9,[]),(10,[]),(11,[])] xj xj (zzh 16 (.v (aa.v)) ty35 zze (zza 17 (zI k) (sy_conv 18 ((k:Int)) (fun w=>by kernel_rfl) (IntWalk.u64_in _ xq) ?_))))));refine sy_shl 19 (k:=.i64) (s:=(k:Int)) (((2^k:Nat):Int)) xq yy (by rw[shl_one xq xq];unfold p2i;simp) ?_;refine zzg 20 14 _ fun _ _ an ai=>qym (k_rqOf ai (z:=((2^k:Nat):Int)) xq xq) ?_;rintro _ u20 aj ⟨r18,rfl,ah⟩;refine zzg 21 13 _ fun _ _ ab al=>qym (k_rqMul al (af.ext xe).raw (ah.ext ab).raw xq xq) ?_;rintro _ u26 g27 ⟨r24,rfl,ag⟩;refine zzg 22 66 _ fun _ _ ac ad=>qym (k_r21Int (z:=(nrZ q k)) ad (by have h9:=(ag.ext ac).raw;rw[gr_two] at h9;exact h9) xq xq xq) ?_;rintro _ u30 g31 rfl;refine zza 15 (.v (.tuple #[.int .i64 (nrZ q k),.bool true])) (zza 23 (zI (nrZ q k)) (zza 24 (zB true) (zza 7 (zI (nrZ q k)) (zza 8 (zB true) (zzb (sq9 (zza 25 (zI (nrZ q k)) (zza 4 (zI (nrZ q k)) (zzb (zzn (ret0 [.int .i64 (nrZ q k)] ⟨zzp,trivial⟩ fun u33 e34=>?_)))))))))))
 rfl
theorem k_rotateB{u w:World}{i j p q k:Int}(d:Dat u w)(hi0:-9223372036854775808≤i)(hi1:i≤9223372036854775807)(hj0:-9223372036854775808≤j)(hj1:j≤9223372036854775807)(hp0:-9223372036854775808≤p)(hp1:p≤9223372036854775807)(hq0:-9223372036854775808≤q)(hq1:q≤9223372036854775807)(hk0:-9223372036854775808≤k)(hk1:k≤9223372036854775807)(hbad:¬(0≤i∧i<64∧0≤j∧j<64∧i≠j∧q≤500∧0<p∧2*p≤q∧1≤k∧k≤20)):qyc 4 #[.int .i64 i,.int .i64 j,.int .i64 p,.int .i64 q,.int .i64 k] w (Post u w fun v _=>v=.tuple #[qyn,.int .i64 1]):=by
 obtain⟨ac,ae,ad⟩:=tdiv2 hq0 hq1;refine zzl Tryz.func4 rfl Tryz.ntmps4 Tryz.results4 d ?_;refine sq9 (zza 10 (.v (qyn)) (zza 11 (zI 0) (zzb (zzd (sq9 (zza 22 (zI i) (zza 23 (zB (decide (i<0))) ?_)))))))
 rcases Bool.eq_false_or_eq_true (decide (i<0)) with hs11|hs11
 ·refine qbi 24 hs11 ?_;have qhs11:=qyt hs11;refine zzm 25 (uw 2 false true 24) (zzm 26 (uw 2 false true 24) (zza 27 (zB true) (zza 28 (zB true) (zzm 29 (uw 6 false true 28) (zzm 30 (uw 6 false true 28) (zza 31 (zB true) (zza 32 (zB true) (zzm 33 (uw 10 false true 32) (zzm 34 (uw 10 false true 32) (zza 35 (zB true) (zza 36 (zB true) ?_)))))))))));refine zzm 37 (uw 14 false true 36) (zzm 38 (uw 14 false true 36) (zzm 39 (uw 14 false true 36) (zza 40 (zB true) (zzb (zyq xj (sq9 (zza 10 (.v (qyn)) (zza 11 (zI 1) (zzb (zzn (zzv (ret0 [qyn,.int .i64 1] ⟨zzp,zzp,trivial⟩ fun u12 e13=>?_))))))))))))
  rfl
 refine qbi 24 hs11 ?_;have qhs11:=qyf hs11;refine zza 25 (zI i) ?_ (hw:=w1 2 false 24);refine zza 26 (zB (decide ((64:Int)≤i))) ?_ (hw:=w1 2 false 24);refine zza 27 (zB (decide ((64:Int)≤i))) ?_
 rcases Bool.eq_false_or_eq_true (decide ((64:Int)≤i)) with hs14|hs14
 ·refine qbi 28 hs14 ?_;have qhs14:=qyt hs14;refine zzm 29 (uw 6 false true 28) (zzm 30 (uw 6 false true 28) (zza 31 (zB true) (zza 32 (zB true) (zzm 33 (uw 10 false true 32) (zzm 34 (uw 10 false true 32) (zza 35 (zB true) (zza 36 (zB true) (zzm 37 (uw 14 false true 36) (zzm 38 (uw 14 false true 36) (zzm 39 (uw 14 false true 36) (zza 40 (zB true) ?_)))))))))));refine zzb (zyq xj (sq9 (zza 10 (.v (qyn)) (zza 11 (zI 1) (zzb (zzn (zzv (ret0 [qyn,.int .i64 1] ⟨zzp,zzp,trivial⟩ fun u15 e16=>?_))))))))
  rfl
 refine qbi 28 hs14 ?_;have qhs14:=qyf hs14;refine zza 29 (zI j) ?_ (hw:=w1 6 false 28);refine zza 30 (zB (decide (j<0))) ?_ (hw:=w1 6 false 28);refine zza 31 (zB (decide (j<0))) ?_
 rcases Bool.eq_false_or_eq_true (decide (j<0)) with hs17|hs17
 ·refine qbi 32 hs17 ?_;have qhs17:=qyt hs17;refine zzm 33 (uw 10 false true 32) (zzm 34 (uw 10 false true 32) (zza 35 (zB true) (zza 36 (zB true) (zzm 37 (uw 14 false true 36) (zzm 38 (uw 14 false true 36) (zzm 39 (uw 14 false true 36) (zza 40 (zB true) (zzb (zyq xj (sq9 (zza 10 (.v (qyn)) ?_)))))))))));refine zza 11 (zI 1) (zzb (zzn (zzv (ret0 [qyn,.int .i64 1] ⟨zzp,zzp,trivial⟩ fun u18 e19=>?_))))
  rfl
 refine qbi 32 hs17 ?_;have qhs17:=qyf hs17;refine zza 33 (zI j) ?_ (hw:=w1 10 false 32);refine zza 34 (zB (decide ((64:Int)≤j))) ?_ (hw:=w1 10 false 32);refine zza 35 (zB (decide ((64:Int)≤j))) ?_
 rcases Bool.eq_false_or_eq_true (decide ((64:Int)≤j)) with hs20|hs20
 ·refine qbi 36 hs20 ?_;have qhs20:=qyt hs20;refine zzm 37 (uw 14 false true 36) (zzm 38 (uw 14 false true 36) (zzm 39 (uw 14 false true 36) (zza 40 (zB true) (zzb (zyq xj (sq9 (zza 10 (.v (qyn)) (zza 11 (zI 1) (zzb (zzn (zzv (ret0 [qyn,.int .i64 1] ⟨zzp,zzp,trivial⟩ fun u21 e22=>?_))))))))))))
  rfl
 refine qbi 36 hs20 ?_;have qhs20:=qyf hs20;refine zza 37 (zI i) ?_ (hw:=w1 14 false 36);refine zza 38 (zI j) ?_ (hw:=w1 14 false 36);refine zza 39 (zB (i==j)) ?_ (hw:=w1 14 false 36);refine zza 40 (zB (i==j)) (zzb (zzt (b:=i==j) xj (fun ab=>?_) (fun ab=>?_)))
 ·refine sq9 (zza 10 (.v (qyn)) (zza 11 (zI 1) (zzb (zzn (zzv (ret0 [qyn,.int .i64 1] ⟨zzp,zzp,trivial⟩ fun u24 e25=>?_))))))
  rfl
 refine zzr (zzo ?_);refine zzd (sq9 (zza 41 (zI q) (zza 42 (zB (decide ((500:Int)<q))) ?_)))
 rcases Bool.eq_false_or_eq_true (decide ((500:Int)<q)) with hs26|hs26
 ·refine qbi 43 hs26 ?_;have qhs26:=qyt hs26;refine zzm 44 (uw 2 false true 43) (zzm 45 (uw 2 false true 43) (zza 46 (zB true) (zza 47 (zB true) (zzm 48 (uw 6 false true 47) (zzm 49 (uw 6 false true 47) (zzm 50 (uw 6 false true 47) (zzm 51 (uw 6 false true 47) (zza 52 (zB true) (zza 53 (zB true) (zzm 54 (uw 12 false true 53) (zzm 55 (uw 12 false true 53) ?_)))))))))));refine zza 56 (zB true) (zza 57 (zB true) (zzm 58 (uw 16 false true 57) (zzm 59 (uw 16 false true 57) (zza 60 (zB true) (zzc 127 [(0,zI i),(1,zI j),(2,zI p),(3,zI q),(4,zI k),(60,zB true)] [] (zyq xj (sq9 (zza 10 (.v (qyn)) (zza 11 (zI 1) (zzb (zzn (zzv (ret0 [qyn,.int .i64 1] ⟨zzp,zzp,trivial⟩ fun u27 e28=>?_)))))))))))))
  rfl
 refine qbi 43 hs26 ?_;have qhs26:=qyf hs26;refine zza 44 (zI p) ?_ (hw:=w1 2 false 43);refine zza 45 (zB (decide (p≤0))) ?_ (hw:=w1 2 false 43);refine zza 46 (zB (decide (p≤0))) ?_
 rcases Bool.eq_false_or_eq_true (decide (p≤0)) with hs29|hs29
 ·refine qbi 47 hs29 ?_;have qhs29:=qyt hs29;refine zzm 48 (uw 6 false true 47) (zzm 49 (uw 6 false true 47) (zzm 50 (uw 6 false true 47) (zzm 51 (uw 6 false true 47) (zza 52 (zB true) (zza 53 (zB true) (zzm 54 (uw 12 false true 53) (zzm 55 (uw 12 false true 53) (zza 56 (zB true) (zza 57 (zB true) (zzm 58 (uw 16 false true 57) (zzm 59 (uw 16 false true 57) ?_)))))))))));refine zza 60 (zB true) (zzc 127 [(0,zI i),(1,zI j),(2,zI p),(3,zI q),(4,zI k),(60,zB true)] [] (zyq xj (sq9 (zza 10 (.v (qyn)) (zza 11 (zI 1) (zzb (zzn (zzv (ret0 [qyn,.int .i64 1] ⟨zzp,zzp,trivial⟩ fun u30 e31=>?_)))))))))
  rfl
 refine qbi 47 hs29 ?_;have qhs29:=qyf hs29;refine zza 48 (zI p) ?_ (hw:=w1 6 false 47);refine zza 49 (zI q) ?_ (hw:=w1 6 false 47);refine sy_quo 50 (n:=q) (m:=2) (q.tdiv 2) xw (IntWalk.i64_in _ xq) ?_ (hw:=w1 6 false 47);refine zza 51 (zB (decide ((q.tdiv 2)<p))) ?_ (hw:=w1 6 false 47);refine zza 52 (zB (decide ((q.tdiv 2)<p))) ?_
 rcases Bool.eq_false_or_eq_true (decide ((q.tdiv 2)<p)) with hs32|hs32
 ·refine qbi 53 hs32 ?_;have qhs32:=qyt hs32;refine zzm 54 (uw 12 false true 53) (zzm 55 (uw 12 false true 53) (zza 56 (zB true) (zza 57 (zB true) (zzm 58 (uw 16 false true 57) (zzm 59 (uw 16 false true 57) (zza 60 (zB true) (zzc 127 [(0,zI i),(1,zI j),(2,zI p),(3,zI q),(4,zI k),(60,zB true)] [] (zyq xj (sq9 (zza 10 (.v (qyn)) (zza 11 (zI 1) ?_)))))))))));refine zzb (zzn (zzv (ret0 [qyn,.int .i64 1] ⟨zzp,zzp,trivial⟩ fun u33 e34=>?_)))
  rfl
 refine qbi 53 hs32 ?_;have qhs32:=qyf hs32;refine zza 54 (zI k) ?_ (hw:=w1 12 false 53);refine zza 55 (zB (decide (k<1))) ?_ (hw:=w1 12 false 53);refine zza 56 (zB (decide (k<1))) ?_
 rcases Bool.eq_false_or_eq_true (decide (k<1)) with hs35|hs35
 ·refine qbi 57 hs35 ?_;have qhs35:=qyt hs35;refine zzm 58 (uw 16 false true 57) (zzm 59 (uw 16 false true 57) (zza 60 (zB true) (zzc 127 [(0,zI i),(1,zI j),(2,zI p),(3,zI q),(4,zI k),(60,zB true)] [] (zyq xj (sq9 (zza 10 (.v (qyn)) (zza 11 (zI 1) (zzb (zzn (zzv (ret0 [qyn,.int .i64 1] ⟨zzp,zzp,trivial⟩ fun u36 e37=>?_)))))))))))
  rfl
 refine qbi 57 hs35 ?_;have qhs35:=qyf hs35;refine zza 58 (zI k) ?_ (hw:=w1 16 false 57);refine zza 59 (zB (decide ((20:Int)<k))) ?_ (hw:=w1 16 false 57);refine zza 60 (zB (decide ((20:Int)<k))) (zzc 127 [(0,zI i),(1,zI j),(2,zI p),(3,zI q),(4,zI k),(60,zB (decide ((20:Int)<k)))] [] (zzt (b:=decide ((20:Int)<k)) xj (fun aa=>?_) (fun aa=>?_)))
 ·have qhb38:=qyt aa;refine sq9 (zza 10 (.v (qyn)) (zza 11 (zI 1) (zzb (zzn (zzv (ret0 [qyn,.int .i64 1] ⟨zzp,zzp,trivial⟩ fun u39 e40=>?_))))))
  rfl
 have qhb38:=qyf aa;refine zzr (zzo ?_);refine zzd ?_
 exfalso;have h9hs11:=hs11;simp at h9hs11;have h9hs14:=hs14;simp at h9hs14;have h9hs17:=hs17;simp at h9hs17;have h9hs20:=hs20;simp at h9hs20;have h9hb23:=ab;simp at h9hb23;have h9hs26:=hs26;simp at h9hs26;have h9hs29:=hs29;simp at h9hs29;have h9hs32:=hs32;simp at h9hs32;have h9hs35:=hs35;simp at h9hs35;have h9hb38:=aa;simp at h9hb38;omega
theorem k_r37rotateB{u w:World}{i j p q k:Int}(d:Dat u w)(hi0:-9223372036854775808≤i)(hi1:i≤9223372036854775807)(hj0:-9223372036854775808≤j)(hj1:j≤9223372036854775807)(hp0:-9223372036854775808≤p)(hp1:p≤9223372036854775807)(hq0:-9223372036854775808≤q)(hq1:q≤9223372036854775807)(hk0:-9223372036854775808≤k)(hk1:k≤9223372036854775807)(hbad:¬(0≤i∧i<64∧0≤j∧j<64∧i≠j∧q≤500∧0<p∧2*p≤q∧1≤k∧k≤20)):qyc 5 #[.int .i64 i,.int .i64 j,.int .i64 p,.int .i64 q,.int .i64 k] w (Post u w fun v _=>v=.tuple #[qyn,.int .i64 1]):=by
 obtain⟨ab,ag,ae⟩:=tdiv2 hq0 hq1;refine zzl Tryz.func5 rfl Tryz.ntmps5 Tryz.results5 d ?_;refine sq9 (zza 10 (.v (qyn)) (zza 11 (zI 0) (zzb (zzd (sq9 (zza 22 (zI i) (zzg 23 19 _ fun _ _ _ ah=>qym (k_in ah (z:=i) (a:=0) (b:=63)) ?_)))))));rintro _ u12 g13 rfl;refine zza 24 (zB (!(decide ((0:Int)≤i)&&decide (i≤63)))) ?_
 rcases Bool.eq_false_or_eq_true (!(decide ((0:Int)≤i)&&decide (i≤63))) with hs15|hs15
 ·refine qbi 25 hs15 (zzm 26 (uw 3 false true 25) (zzm 27 (uw 3 false true 25) (zzm 28 (uw 3 false true 25) (zza 29 (zB true) (zza 30 (zB true) (zzm 31 (uw 8 false true 30) (zzm 32 (uw 8 false true 30) (zzm 33 (uw 8 false true 30) (zza 34 (zB true) (zza 35 (zB true) (zzm 36 (uw 13 false true 35) ?_)))))))))));refine zzm 37 (uw 13 false true 35) (zzm 38 (uw 13 false true 35) (zza 39 (zB true) (zza 40 (zB true) (zzm 41 (uw 18 false true 40) (zzm 42 (uw 18 false true 40) (zza 43 (zB true) (zza 44 (zB true) (zzm 45 (uw 22 false true 44) (zzm 46 (uw 22 false true 44) (zza 47 (zB true) (zza 48 (zB true) ?_)))))))))));refine zzm 49 (uw 26 false true 48) (zzm 50 (uw 26 false true 48) (zzm 51 (uw 26 false true 48) (zzm 52 (uw 26 false true 48) (zza 53 (zB true) (zza 54 (zB true) (zzm 55 (uw 32 false true 54) (zzm 56 (uw 32 false true 54) (zzm 57 (uw 32 false true 54) (zza 58 (zB true) (zzc 113 [(0,zI i),(1,zI j),(2,zI p),(3,zI q),(4,zI k),(58,zB true)] [] (zyq xj ?_)))))))))));refine sq9 (zza 10 (.v (qyn)) (zza 11 (zI 1) (zzb (zzn (zzv (ret0 [qyn,.int .i64 1] ⟨zzp,zzp,trivial⟩ fun u16 e17=>?_))))))
  rfl
 refine qbi 25 hs15 (zza 26 (zI j) ?_ (hw:=w1 3 false 25));refine zzg 27 19 _ (fun _ _ _ ac=>qym (k_in ac (z:=j) (a:=0) (b:=63)) ?_) (hw:=w1 3 false 25);rintro _ u19 g20 rfl;refine zza 28 (zB (!(decide ((0:Int)≤j)&&decide (j≤63)))) ?_ (hw:=w1 3 false 25);refine zza 29 (zB (!(decide ((0:Int)≤j)&&decide (j≤63)))) ?_
 rcases Bool.eq_false_or_eq_true (!(decide ((0:Int)≤j)&&decide (j≤63))) with hs22|hs22
 ·refine qbi 30 hs22 (zzm 31 (uw 8 false true 30) (zzm 32 (uw 8 false true 30) (zzm 33 (uw 8 false true 30) (zza 34 (zB true) (zza 35 (zB true) (zzm 36 (uw 13 false true 35) (zzm 37 (uw 13 false true 35) (zzm 38 (uw 13 false true 35) (zza 39 (zB true) (zza 40 (zB true) (zzm 41 (uw 18 false true 40) ?_)))))))))));refine zzm 42 (uw 18 false true 40) (zza 43 (zB true) (zza 44 (zB true) (zzm 45 (uw 22 false true 44) (zzm 46 (uw 22 false true 44) (zza 47 (zB true) (zza 48 (zB true) (zzm 49 (uw 26 false true 48) (zzm 50 (uw 26 false true 48) (zzm 51 (uw 26 false true 48) (zzm 52 (uw 26 false true 48) (zza 53 (zB true) ?_)))))))))));refine zza 54 (zB true) (zzm 55 (uw 32 false true 54) (zzm 56 (uw 32 false true 54) (zzm 57 (uw 32 false true 54) (zza 58 (zB true) (zzc 113 [(0,zI i),(1,zI j),(2,zI p),(3,zI q),(4,zI k),(58,zB true)] [] (zyq xj (sq9 (zza 10 (.v (qyn)) (zza 11 (zI 1) (zzb (zzn (zzv (ret0 [qyn,.int .i64 1] ⟨zzp,zzp,trivial⟩ fun u23 e24=>?_)))))))))))))
  rfl
 refine qbi 30 hs22 (zza 31 (zI i) ?_ (hw:=w1 8 false 30));refine zza 32 (zI j) ?_ (hw:=w1 8 false 30);refine zza 33 (zB (i==j)) ?_ (hw:=w1 8 false 30);refine zza 34 (zB (i==j)) ?_
 rcases Bool.eq_false_or_eq_true (i==j) with hs25|hs25
 ·refine qbi 35 hs25 (zzm 36 (uw 13 false true 35) (zzm 37 (uw 13 false true 35) (zzm 38 (uw 13 false true 35) (zza 39 (zB true) (zza 40 (zB true) (zzm 41 (uw 18 false true 40) (zzm 42 (uw 18 false true 40) (zza 43 (zB true) (zza 44 (zB true) (zzm 45 (uw 22 false true 44) (zzm 46 (uw 22 false true 44) ?_)))))))))));refine zza 47 (zB true) (zza 48 (zB true) (zzm 49 (uw 26 false true 48) (zzm 50 (uw 26 false true 48) (zzm 51 (uw 26 false true 48) (zzm 52 (uw 26 false true 48) (zza 53 (zB true) (zza 54 (zB true) (zzm 55 (uw 32 false true 54) (zzm 56 (uw 32 false true 54) (zzm 57 (uw 32 false true 54) (zza 58 (zB true) ?_)))))))))));refine zzc 113 [(0,zI i),(1,zI j),(2,zI p),(3,zI q),(4,zI k),(58,zB true)] [] (zyq xj (sq9 (zza 10 (.v (qyn)) (zza 11 (zI 1) (zzb (zzn (zzv (ret0 [qyn,.int .i64 1] ⟨zzp,zzp,trivial⟩ fun u26 e27=>?_))))))))
  rfl
 refine qbi 35 hs25 (zza 36 (zI q) ?_ (hw:=w1 13 false 35));refine zzg 37 19 _ (fun _ _ _ af=>qym (k_in af (z:=q) (a:=1) (b:=500)) ?_) (hw:=w1 13 false 35);rintro _ u29 g30 rfl;refine zza 38 (zB (!(decide ((1:Int)≤q)&&decide (q≤500)))) ?_ (hw:=w1 13 false 35);refine zza 39 (zB (!(decide ((1:Int)≤q)&&decide (q≤500)))) ?_
 rcases Bool.eq_false_or_eq_true (!(decide ((1:Int)≤q)&&decide (q≤500))) with hs32|hs32
 ·refine qbi 40 hs32 (zzm 41 (uw 18 false true 40) (zzm 42 (uw 18 false true 40) (zza 43 (zB true) (zza 44 (zB true) (zzm 45 (uw 22 false true 44) (zzm 46 (uw 22 false true 44) (zza 47 (zB true) (zza 48 (zB true) (zzm 49 (uw 26 false true 48) (zzm 50 (uw 26 false true 48) (zzm 51 (uw 26 false true 48) ?_)))))))))));refine zzm 52 (uw 26 false true 48) (zza 53 (zB true) (zza 54 (zB true) (zzm 55 (uw 32 false true 54) (zzm 56 (uw 32 false true 54) (zzm 57 (uw 32 false true 54) (zza 58 (zB true) (zzc 113 [(0,zI i),(1,zI j),(2,zI p),(3,zI q),(4,zI k),(58,zB true)] [] (zyq xj (sq9 (zza 10 (.v (qyn)) (zza 11 (zI 1) ?_)))))))))));refine zzb (zzn (zzv (ret0 [qyn,.int .i64 1] ⟨zzp,zzp,trivial⟩ fun u33 e34=>?_)))
  rfl
 refine qbi 40 hs32 (zza 41 (zI p) ?_ (hw:=w1 18 false 40));refine zza 42 (zB (decide (p≤0))) ?_ (hw:=w1 18 false 40);refine zza 43 (zB (decide (p≤0))) ?_
 rcases Bool.eq_false_or_eq_true (decide (p≤0)) with hs35|hs35
 ·refine qbi 44 hs35 ?_;have qhs35:=qyt hs35;refine zzm 45 (uw 22 false true 44) (zzm 46 (uw 22 false true 44) (zza 47 (zB true) (zza 48 (zB true) (zzm 49 (uw 26 false true 48) (zzm 50 (uw 26 false true 48) (zzm 51 (uw 26 false true 48) (zzm 52 (uw 26 false true 48) (zza 53 (zB true) (zza 54 (zB true) (zzm 55 (uw 32 false true 54) (zzm 56 (uw 32 false true 54) ?_)))))))))));refine zzm 57 (uw 32 false true 54) (zza 58 (zB true) (zzc 113 [(0,zI i),(1,zI j),(2,zI p),(3,zI q),(4,zI k),(58,zB true)] [] (zyq xj (sq9 (zza 10 (.v (qyn)) (zza 11 (zI 1) (zzb (zzn (zzv (ret0 [qyn,.int .i64 1] ⟨zzp,zzp,trivial⟩ fun u36 e37=>?_))))))))))
  rfl
 refine qbi 44 hs35 ?_;have qhs35:=qyf hs35;refine zza 45 (zI p) ?_ (hw:=w1 22 false 44);refine zza 46 (zB (decide ((250:Int)<p))) ?_ (hw:=w1 22 false 44);refine zza 47 (zB (decide ((250:Int)<p))) ?_
 rcases Bool.eq_false_or_eq_true (decide ((250:Int)<p)) with hs38|hs38
 ·refine qbi 48 hs38 ?_;have qhs38:=qyt hs38;refine zzm 49 (uw 26 false true 48) (zzm 50 (uw 26 false true 48) (zzm 51 (uw 26 false true 48) (zzm 52 (uw 26 false true 48) (zza 53 (zB true) (zza 54 (zB true) (zzm 55 (uw 32 false true 54) (zzm 56 (uw 32 false true 54) (zzm 57 (uw 32 false true 54) (zza 58 (zB true) (zzc 113 [(0,zI i),(1,zI j),(2,zI p),(3,zI q),(4,zI k),(58,zB true)] [] (zyq xj ?_)))))))))));refine sq9 (zza 10 (.v (qyn)) (zza 11 (zI 1) (zzb (zzn (zzv (ret0 [qyn,.int .i64 1] ⟨zzp,zzp,trivial⟩ fun u39 e40=>?_))))))
  rfl
 refine qbi 48 hs38 ?_;have qhs38:=qyf hs38;refine zza 49 (zI p) ?_ (hw:=w1 26 false 48);refine zyp 50 (x:=zI (IntKind.i64.wrap ((2:Int)*p))) (zI ((2:Int)*p)) yz ?_ (hw:=w1 26 false 48);refine zza 51 (zI q) ?_ (hw:=w1 26 false 48);refine zza 52 (zB (decide (q<((2:Int)*p)))) ?_ (hw:=w1 26 false 48);refine zza 53 (zB (decide (q<((2:Int)*p)))) ?_
 rcases Bool.eq_false_or_eq_true (decide (q<((2:Int)*p))) with hs41|hs41
 ·refine qbi 54 hs41 ?_;have qhs41:=qyt hs41;refine zzm 55 (uw 32 false true 54) (zzm 56 (uw 32 false true 54) (zzm 57 (uw 32 false true 54) (zza 58 (zB true) (zzc 113 [(0,zI i),(1,zI j),(2,zI p),(3,zI q),(4,zI k),(58,zB true)] [] (zyq xj (sq9 (zza 10 (.v (qyn)) (zza 11 (zI 1) (zzb (zzn (zzv (ret0 [qyn,.int .i64 1] ⟨zzp,zzp,trivial⟩ fun u42 e43=>?_))))))))))))
  rfl
 refine qbi 54 hs41 ?_;have qhs41:=qyf hs41;refine zza 55 (zI k) ?_ (hw:=w1 32 false 54);refine zzg 56 19 _ (fun _ _ _ ad=>qym (k_in ad (z:=k) (a:=1) (b:=20)) ?_) (hw:=w1 32 false 54);rintro _ u45 g46 rfl;refine zza 57 (zB (!(decide ((1:Int)≤k)&&decide (k≤20)))) ?_ (hw:=w1 32 false 54);refine zza 58 (zB (!(decide ((1:Int)≤k)&&decide (k≤20)))) (zzc 113 [(0,zI i),(1,zI j),(2,zI p),(3,zI q),(4,zI k),(58,zB (!(decide ((1:Int)≤k)&&decide (k≤20))))] [] (zzt (b := !(decide ((1:Int)≤k)&&decide (k≤20))) xj (fun aa=>?_) (fun aa=>?_)))
 ·refine sq9 (zza 10 (.v (qyn)) (zza 11 (zI 1) (zzb (zzn (zzv (ret0 [qyn,.int .i64 1] ⟨zzp,zzp,trivial⟩ fun u49 e50=>?_))))))
  rfl
 refine zzr (zzo ?_);refine zzd ?_
 exfalso;have h9hs15:=hs15;simp at h9hs15;have h9hs22:=hs22;simp at h9hs22;have h9hs25:=hs25;simp at h9hs25;have h9hs32:=hs32;simp at h9hs32;have h9hs35:=hs35;simp at h9hs35;have h9hs38:=hs38;simp at h9hs38;have h9hs41:=hs41;simp at h9hs41;have h9hb48:=aa;simp at h9hb48;omega
theorem k_r37rotate{u w:World}{i j p q k:Nat}(d:Dat u w)(hi:i<64)(hj:j<64)(hij:i≠j)(hp:0<p)(hpq:2*p≤q)(hq:q≤500)(hk1:1≤k)(hk2:k≤20)(hO:RotOK p q k):qyc 5 #[.int .i64 (i:Int),.int .i64 (j:Int),.int .i64 (p:Int),.int .i64 (q:Int),.int .i64 (k:Int)] w (Post u w fun v u'=>∃x:Sl,v=.tuple #[x.v,.int .i64 0]∧IrV 4 u' x (roL i j p q k)):=by
 have hT0:=hO.t0;have hT1:=hO.t1;have hS0:=hO.s0;have hS1:=hO.s1;refine zzl Tryz.func5 rfl Tryz.ntmps5 Tryz.results5 d ?_;refine sq9 (zza 10 (.v (qyn)) (zza 11 (zI 0) (zzb (zzd (sq9 (zza 22 (zI i) (zzg 23 19 _ fun _ _ _ aX=>qym (k_in aX (z:=(i:Int)) (a:=0) (b:=63)) ?_)))))));rintro _ u12 g13 rfl;refine zza 24 (zB (!(decide ((0:Int)≤(i:Int))&&decide ((i:Int)≤63)))) (zqB 25 (show(!(decide ((0:Int)≤(i:Int))&&decide ((i:Int)≤63)))=false from(by rw[decide_eq_true xq,decide_eq_true xq];rfl)) (zza 26 (zI j) ?_ (hw:=w1 3 false 25)));refine zzg 27 19 _ (fun _ _ _ aI=>qym (k_in aI (z:=(j:Int)) (a:=0) (b:=63)) ?_) (hw:=w1 3 false 25);rintro _ u17 g18 rfl;refine zza 28 (zB (!(decide ((0:Int)≤(j:Int))&&decide ((j:Int)≤63)))) ?_ (hw:=w1 3 false 25);refine zza 29 (zB (!(decide ((0:Int)≤(j:Int))&&decide ((j:Int)≤63)))) (zqB 30 (show(!(decide ((0:Int)≤(j:Int))&&decide ((j:Int)≤63)))=false from(by rw[decide_eq_true xq,decide_eq_true xq];rfl)) (zza 31 (zI i) ?_ (hw:=w1 8 false 30)));refine zza 32 (zI j) ?_ (hw:=w1 8 false 30);refine zza 33 (zB ((i:Int)==(j:Int))) ?_ (hw:=w1 8 false 30);refine zza 34 (zB ((i:Int)==(j:Int))) (zqB 35 (show((i:Int)==(j:Int))=false from yw) (zza 36 (zI q) ?_ (hw:=w1 13 false 35)));refine zzg 37 19 _ (fun _ _ _ aT=>qym (k_in aT (z:=(q:Int)) (a:=1) (b:=500)) ?_) (hw:=w1 13 false 35);rintro _ u23 g24 rfl;refine zza 38 (zB (!(decide ((1:Int)≤(q:Int))&&decide ((q:Int)≤500)))) ?_ (hw:=w1 13 false 35);refine zza 39 (zB (!(decide ((1:Int)≤(q:Int))&&decide ((q:Int)≤500)))) (zqB 40 (show(!(decide ((1:Int)≤(q:Int))&&decide ((q:Int)≤500)))=false from(by rw[decide_eq_true xq,decide_eq_true xq];rfl)) (zza 41 (zI p) ?_ (hw:=w1 18 false 40)));refine zza 42 (zB (decide ((p:Int)≤0))) ?_ (hw:=w1 18 false 40);refine zza 43 (zB (decide ((p:Int)≤0))) (zqB 44 (show(decide ((p:Int)≤0))=false from decide_eq_false xq) (zza 45 (zI p) ?_ (hw:=w1 22 false 44)));refine zza 46 (zB (decide ((250:Int)<(p:Int)))) ?_ (hw:=w1 22 false 44);refine zza 47 (zB (decide ((250:Int)<(p:Int)))) (zqB 48 (show(decide ((250:Int)<(p:Int)))=false from decide_eq_false xq) (zza 49 (zI p) ?_ (hw:=w1 26 false 48)));refine qwi 50 ((2:Int)*(p:Int)) (2*p:Nat) xk ?_ (hw:=w1 26 false 48);refine zza 51 (zI q) ?_ (hw:=w1 26 false 48);refine zza 52 (zB (decide ((q:Int)<((2*p:Nat):Int)))) ?_ (hw:=w1 26 false 48);refine zza 53 (zB (decide ((q:Int)<((2*p:Nat):Int)))) (zqB 54 (show(decide ((q:Int)<((2*p:Nat):Int)))=false from decide_eq_false xq) (zza 55 (zI k) ?_ (hw:=w1 32 false 54)));refine zzg 56 19 _ (fun _ _ _ ax=>qym (k_in ax (z:=(k:Int)) (a:=1) (b:=20)) ?_) (hw:=w1 32 false 54);rintro _ u31 g32 rfl;refine zza 57 (zB (!(decide ((1:Int)≤(k:Int))&&decide ((k:Int)≤20)))) ?_ (hw:=w1 32 false 54);refine zza 58 (zB (!(decide ((1:Int)≤(k:Int))&&decide ((k:Int)≤20)))) (zzc 113 [(0,zI i),(1,zI j),(2,zI p),(3,zI q),(4,zI k),(58,zB (!(decide ((1:Int)≤(k:Int))&&decide ((k:Int)≤20))))] [] (zzt (b := !(decide ((1:Int)≤(k:Int))&&decide ((k:Int)≤20))) xj (fun hb=>?_) (fun hb=>?_)))
 ·exact absurd hb (by rw[show(!(decide ((1:Int)≤(k:Int))&&decide ((k:Int)≤20)))=false from(by rw[decide_eq_true xq,decide_eq_true xq];rfl)];decide)
 clear hb;refine zzr (zzo ?_);refine sq9 (zza 60 (zI p) (zza 61 (zI q) (qwi 62 ((2:Int)*(q:Int)) (2*q:Nat) xk (zzg 63 20 _ fun _ _ _ aD=>qym (k_r10SinPiS (p:=(p:Int)) (q:=2*q) (k:=64) aD xq xq xq xq xq (GapS.two hO.g2)) ?_))));rintro _ u39 g40 ⟨ae,ah,rfl,aG,aE⟩;refine zza 59 (.v (.tuple #[.agg #[.bool ae.s,ae.m.v,ae.d.v,.bool ah.s,ah.m.v,ah.d.v],.int .i64 0])) (zza 64 (.v (.agg #[.bool ae.s,ae.m.v,ae.d.v,.bool ah.s,ah.m.v,ah.d.v])) (zza 65 (zI 0) (zzj 12 ⟨45,zw6⟩ (zzi ⟨45,ae.cs++ah.cs⟩ ty45 ?_))));refine zza 13 (zI 0) (zzb (sq9 (zza 67 (zI p) (zza 68 (zI q) (qwi 69 ((2:Int)*(q:Int)) (2*q:Nat) xk (zzg 70 21 _ fun _ _ au aL=>qym (k_r10CosPiG (p:=(p:Int)) (q:=2*q) (k:=64) aL xq xq xq xq xq hO.g2) ?_))))));rintro _ u47 ap ⟨af,ag,rfl,aR,aQ⟩;refine zza 66 (.v (.tuple #[.agg #[.bool af.s,af.m.v,af.d.v,.bool ag.s,ag.m.v,ag.d.v],.int .i64 0])) (zza 71 (.v (.agg #[.bool af.s,af.m.v,af.d.v,.bool ag.s,ag.m.v,ag.d.v])) (zza 72 (zI 0) (zzj 14 ⟨45,zw6⟩ (zzi ⟨45,af.cs++ag.cs⟩ ty45 ?_))));refine zza 15 (zI 0) (zzb (sq9 (zzh 74 (.v (.agg #[.bool ae.s,ae.m.v,ae.d.v,.bool ah.s,ah.m.v,ah.d.v])) ty45 zze (zzh 75 (.v (.agg #[.bool af.s,af.m.v,af.d.v,.bool ag.s,ag.m.v,ag.d.v])) ty45 zze (zzg 76 22 _ fun _ _ ak aK=>qym (k_r4Div aK (aG.ext xe).raw (aE.ext xe).raw (aR.ext ak).raw (aQ.ext ak).raw xq xq) ?_)))));rintro _ u54 g55 ⟨aa,ab,rfl,aP⟩;refine zza 73 (.v (.tuple #[.agg #[.bool aa.s,aa.m.v,aa.d.v,.bool ab.s,ab.m.v,ab.d.v],.int .i64 (divE (rCH p q).1 (rCH p q).2)])) (zza 77 (.v (.agg #[.bool aa.s,aa.m.v,aa.d.v,.bool ab.s,ab.m.v,ab.d.v])) (zza 78 (zI (divE (rCH p q).1 (rCH p q).2)) (zzj 16 ⟨45,zw6⟩ (zzi ⟨45,aa.cs++ab.cs⟩ ty45 ?_))));refine zza 17 (zI (divE (rCH p q).1 (rCH p q).2)) (zzb (sq9 (zza 80 (zI p) (zza 81 (zI q) (zzg 82 20 _ fun _ _ aJ aM=>qym (k_r10SinPiG (p:=(p:Int)) (q:=q) (k:=64) aM xq xq xq xq xq hO.g2) ?_)))));rintro _ aF aS ⟨ac,ad,rfl,aN,aU⟩;refine zza 79 (.v (.tuple #[.agg #[.bool ac.s,ac.m.v,ac.d.v,.bool ad.s,ad.m.v,ad.d.v],.int .i64 0])) (zza 83 (.v (.agg #[.bool ac.s,ac.m.v,ac.d.v,.bool ad.s,ad.m.v,ad.d.v])) (zza 84 (zI 0) (zzj 18 ⟨45,zw6⟩ (zzi ⟨45,ac.cs++ad.cs⟩ ty45 ?_))));refine zza 19 (zI 0) (zzc 113 [(0,zI i),(1,zI j),(4,zI k),(16,.adr 16 0),(18,.adr 18 0)] [(16,⟨45,aa.cs++ab.cs⟩),(18,⟨45,ac.cs++ad.cs⟩)] (zzd ?_));have ai:OptI aF aa ab (divO (rSH p q).1 (rSH p q).2 (rCH p q).1 (rCH p q).2) (200+200+20):=(aP.ext (aJ.t aS.ext))
 rw[hO.div.2] at ai;refine zzy [0,1,0,7,0,31,0,127,255,511] [(0,[]),(2,[]),(4,[]),(6,[]),(1,[]),(3,[]),(5,[]),(7,[]),(8,[]),(9,[])] xj xj (zzh 85 (.v (.agg #[.bool aa.s,aa.m.v,aa.d.v,.bool ab.s,ab.m.v,ab.d.v])) ty45 zze (zza 87 (zI k) (zzh 89 (.v (.agg #[.bool ac.s,ac.m.v,ac.d.v,.bool ad.s,ad.m.v,ad.d.v])) ty45 zze (zza 91 (zI k) (zzg 86 24 _ fun _ _ al aA=>qym (k_r4Mid aA (ai.1.ext al).raw (ai.2.ext al).raw xq) ?_)))));rintro _ u69 ao ⟨r67,rfl,aw⟩;refine zzg 88 23 _ fun _ _ am aB=>qym ((show Calls _ _ _ _ (Post _ _ fun v _=>v=.int .i64 (roT p q k)) from k_r37word (k:=k) aB (aw.ext am).raw xq hO.t0 hO.t1 xq)) ?_;rintro _ u73 ar rfl;refine zzg 90 24 _ fun _ _ aq aH=>qym (k_r4Mid aH (aN.ext xe).raw (aU.ext xe).raw xq) ?_;rintro _ u79 g80 ⟨r77,rfl,aW⟩;refine zzg 92 23 _ fun _ _ az ay=>qym ((show Calls _ _ _ _ (Post _ _ fun v _=>v=.int .i64 (roS p q k)) from k_r37word (k:=k) ay (aW.ext az).raw xq hO.s0 hO.s1 xq)) ?_;rintro _ u83 g84 rfl;refine zza 20 (zI (roT p q k)) (zza 21 (zI (roS p q k)) (zzb (sq9 (zza 93 (zI i) (zza 94 (zI j) (zza 95 (zI (roT p q k)) (zza 96 (zI k) (zza 97 (.v (.agg #[.int .i64 i,.int .i64 j,.int .i64 (roT p q k),.int .i64 k])) (zza 98 (zI j) (zza 99 (zI i) (zza 100 (zI (roS p q k)) ?_)))))))))));refine qwi 101 (0-(roS p q k)) (-(roS p q k)) xk (zza 102 (zI k) (zza 103 (.v (.agg #[.int .i64 j,.int .i64 i,.int .i64 (-(roS p q k)),.int .i64 k])) (zza 104 (zI i) (zza 105 (zI j) (zza 106 (zI (roT p q k)) (zza 107 (zI k) (zza 108 (.v (.agg #[.int .i64 i,.int .i64 j,.int .i64 (roT p q k),.int .i64 k])) (zza 109 (zI j) (zza 110 (zI j) (zza 111 (.v (.agg #[.int .i64 j,.int .i64 j,.int .i64 0,.int .i64 (-2)])) (zxw 112 ⟨28,[.int .i64 i,.int .i64 j,.int .i64 (roT p q k),.int .i64 k,.int .i64 j,.int .i64 i,.int .i64 (-(roS p q k)),.int .i64 k,.int .i64 i,.int .i64 j,.int .i64 (roT p q k),.int .i64 k,.int .i64 j,.int .i64 j,.int .i64 0,.int .i64 (-2)]⟩ 4 (fun aj aV e88 aO=>?_))))))))))));have an:IrV 4 aV (⟨some ⟨aj,0,none⟩,4,4⟩:Sl) [[(i:Int),(j:Int),(roT p q k),(k:Int)],[(j:Int),(i:Int),-(roS p q k),(k:Int)],[(i:Int),(j:Int),(roT p q k),(k:Int)],[(j:Int),(j:Int),0,(-2)]]:=ir_data aO (rows_cons rfl (rows_cons rfl (rows_cons rfl (rows_cons rfl rows_nil)))) rfl rfl rfl qyl yv;refine zza 10 (.v (.slice (some ⟨aj,0,none⟩) 4 4)) (zza 11 (zI 0) (zzc 113 [(10,.v (.slice (some ⟨aj,0,none⟩) 4 4)),(11,zI 0)] [] (zzn (ret0 [.slice (some ⟨aj,0,none⟩) 4 4,.int .i64 0] ⟨zzp,zzp,trivial⟩ fun u91 av=>?_))));exact⟨(⟨some ⟨aj,0,none⟩,4,4⟩:Sl),rfl,(an.ext av)⟩
theorem k_rotateO{u w:World}{i j p q k:Int}(d:Dat u w)(hi0:-9223372036854775808≤i)(hi1:i≤9223372036854775807)(hj0:-9223372036854775808≤j)(hj1:j≤9223372036854775807)(hp0:-9223372036854775808≤p)(hp1:p≤9223372036854775807)(hq0:-9223372036854775808≤q)(hq1:q≤9223372036854775807)(hk0:-9223372036854775808≤k)(hk1:k≤9223372036854775807):qyc 4 #[.int .i64 i,.int .i64 j,.int .i64 p,.int .i64 q,.int .i64 k] w (Post u w fun v u'=>(¬(0≤i∧i<64∧0≤j∧j<64∧i≠j∧q≤500∧0<p∧2*p≤q∧1≤k∧k≤20)∧v=.tuple #[qyn,.int .i64 1])∨((0≤i∧i<64∧0≤j∧j<64∧i≠j∧q≤500∧0<p∧2*p≤q∧1≤k∧k≤20)∧∃x:Sl,v=.tuple #[x.v,.int .i64 0]∧IrV 4 u' x (roL i.toNat j.toNat p.toNat q.toNat k.toNat))):=by
 by_cases h:(0≤i∧i<64∧0≤j∧j<64∧i≠j∧q≤500∧0<p∧2*p≤q∧1≤k∧k≤20)
 ·have h9:=id h;obtain⟨a1,a2,a3,a4,a5,a6,a7,a8,a9,a10⟩:=h;obtain⟨i,rfl⟩:=Int.eq_ofNat_of_zero_le a1;obtain⟨j,rfl⟩:=Int.eq_ofNat_of_zero_le a3;obtain⟨p,rfl⟩:=Int.eq_ofNat_of_zero_le (Int.le_of_lt a7);obtain⟨q,rfl⟩:=Int.eq_ofNat_of_zero_le (show 0≤q by omega);obtain⟨k,rfl⟩:=Int.eq_ofNat_of_zero_le (show 0≤k by omega);exact qym (k_rotate d xq xq xq xq xq xq xq xq (rotOK xq xq xq xq)) fun v u' _ h=>.inr ⟨h9,h⟩
 exact qym (k_rotateB d hi0 hi1 hj0 hj1 hp0 hp1 hq0 hq1 hk0 hk1 h) fun v u' _ h8=>.inl ⟨h,h8⟩
theorem k_r37rotateO{u w:World}{i j p q k:Int}(d:Dat u w)(hi0:-9223372036854775808≤i)(hi1:i≤9223372036854775807)(hj0:-9223372036854775808≤j)(hj1:j≤9223372036854775807)(hp0:-9223372036854775808≤p)(hp1:p≤9223372036854775807)(hq0:-9223372036854775808≤q)(hq1:q≤9223372036854775807)(hk0:-9223372036854775808≤k)(hk1:k≤9223372036854775807):qyc 5 #[.int .i64 i,.int .i64 j,.int .i64 p,.int .i64 q,.int .i64 k] w (Post u w fun v u'=>(¬(0≤i∧i<64∧0≤j∧j<64∧i≠j∧q≤500∧0<p∧2*p≤q∧1≤k∧k≤20)∧v=.tuple #[qyn,.int .i64 1])∨((0≤i∧i<64∧0≤j∧j<64∧i≠j∧q≤500∧0<p∧2*p≤q∧1≤k∧k≤20)∧∃x:Sl,v=.tuple #[x.v,.int .i64 0]∧IrV 4 u' x (roL i.toNat j.toNat p.toNat q.toNat k.toNat))):=by
 by_cases h:(0≤i∧i<64∧0≤j∧j<64∧i≠j∧q≤500∧0<p∧2*p≤q∧1≤k∧k≤20)
 ·have h9:=id h;obtain⟨a1,a2,a3,a4,a5,a6,a7,a8,a9,a10⟩:=h;obtain⟨i,rfl⟩:=Int.eq_ofNat_of_zero_le a1;obtain⟨j,rfl⟩:=Int.eq_ofNat_of_zero_le a3;obtain⟨p,rfl⟩:=Int.eq_ofNat_of_zero_le (Int.le_of_lt a7);obtain⟨q,rfl⟩:=Int.eq_ofNat_of_zero_le (show 0≤q by omega);obtain⟨k,rfl⟩:=Int.eq_ofNat_of_zero_le (show 0≤k by omega);exact qym (k_r37rotate d xq xq xq xq xq xq xq xq (rotOK xq xq xq xq)) fun v u' _ h=>.inr ⟨h9,h⟩
 exact qym (k_r37rotateB d hi0 hi1 hj0 hj1 hp0 hp1 hq0 hq1 hk0 hk1 h) fun v u' _ h8=>.inl ⟨h,h8⟩
section
variable {lo h g:Nat} {u u':World} {x y z:Sl} {N:List (List TL)} {cs:List Value}
def Sep(x y:Sl):Prop:=∀a b,x.a=some a→y.a=some b→a.block≠b.block
theorem Sep.symm(h:Sep x y):Sep y x:=fun a b ha hb e=>h b a hb ha e.symm
theorem Sep.step{k:Nat}{ty:TypeId}(hs:Sep x y)(m:MutL k ty lo u x cs)(ho:∀a,z.a=some a→(y.a=some a∨u.heap.size≤a.block)):Sep x z:=fun a b ha hb e=>by
 rcases ho b hb with h1|h1
 ·exact hs a b ha h1 e
 have:=m.lt ha
 omega
end
def NU(v:Value):Prop:=∀y,v≠.int .u32 y
def MutQ(k:Nat)(ty:TypeId)(lo:Nat)(u:World)(x:Sl)(cs:List Value):Prop:=
 cs.length=x.n*k∧x.n≤x.c∧x.c≤maxLen∧(x=⟨none,0,0⟩∨∃b all,x.a=some ⟨b,0,none⟩∧u.heap[b]? = some (.cells (List.toArray all) ty (0,0))∧all.length=x.c*k∧all.take (x.n*k)=cs∧lo≤b∧∀v∈all,NU v)
section
variable {k lo lo' h b n c i j off:Nat} {ty t2:TypeId} {u u' u'' v:World} {x y z:Sl} {cs cs' vs:List Value} {L:List RL} {r:RL} {q:Rat} {K:Nat}
theorem MutQ.mutL(m:MutQ k ty lo u x cs):MutL k ty lo u x cs:=⟨m.1,m.2.1,m.2.2.1,m.2.2.2.imp id fun⟨b,all,h1,h2,h3,h4,h5,_⟩=>⟨b,all,h1,h2,h3,h4,h5⟩⟩
theorem MutQ.ext(m:MutQ k ty lo u x cs)(e:Ext u u'):MutQ k ty lo u' x cs:=
 ⟨m.1,m.2.1,m.2.2.1,m.2.2.2.imp id fun⟨b,all,h1,h2,h3⟩=>⟨b,all,h1,e.cells h2,h3⟩⟩
theorem MutQ.extT(m:MutQ k ty lo u x cs)(e:ExtT t2 u u')(ht:ty≠t2):MutQ k ty lo u' x cs:=
 ⟨m.1,m.2.1,m.2.2.1,m.2.2.2.imp id fun⟨b,all,h1,h2,h3⟩=>⟨b,all,h1,e.vis _ _ _ ht h2,h3⟩⟩
theorem MutQ.extS(m:MutQ k ty lo u y cs)(e:ExtX x u u')(hs:Sep x y):MutQ k ty lo u' y cs:=
 ⟨m.1,m.2.1,m.2.2.1,m.2.2.2.imp id fun⟨b,all,h1,h2,h3⟩=>⟨b,all,h1,e.vis _ _ (fun a ha hc=>hs a _ ha h1 hc) h2 cells_not_hid,h3⟩⟩
theorem MutQ.low(m:MutQ k ty lo u x cs)(hl:lo'≤lo):MutQ k ty lo' u x cs:=
 ⟨m.1,m.2.1,m.2.2.1,m.2.2.2.imp id fun⟨b,all,h1,h2,h3,h4,h5,h6⟩=>⟨b,all,h1,h2,h3,h4,Nat.le_trans hl h5,h6⟩⟩
theorem MutQ.nil(k:Nat)(ty:TypeId)(lo:Nat)(u:World):MutQ k ty lo u sl0 []:=⟨by simp[sl0],Nat.le_refl _,Nat.zero_le _,.inl rfl⟩
theorem MutQ.lit{cs:List Value}(hu:u.heap[b]? = some (.cells cs.toArray ty (0,0)))(hl:cs.length=n*k)(hn:n≤maxLen)(hb:lo≤b)(hnu:∀v∈cs,NU v):MutQ k ty lo u ⟨some ⟨b,0,none⟩,n,n⟩ cs:=
 ⟨hl,Nat.le_refl _,hn,.inr ⟨b,cs,rfl,hu,hl,by rw[List.take_of_length_le (by show _≤n*k;omega)],hb,hnu⟩⟩
theorem nu_bool(s:Bool):NU (.bool s):=fun y e=>by cases e
theorem nu_sl(a:Option Addr)(n c:Nat):NU (.slice a n c):=fun y e=>by cases e
theorem nu_rl(r:RL):∀v∈r.cs,NU v:=fun v hv=>by
 simp[RL.cs] at hv
 rcases hv with rfl|rfl|rfl
 ·exact nu_bool _
 ·exact nu_sl _ _ _
 exact nu_sl _ _ _
theorem nu_rcs(L:List RL):∀v∈rcs L,NU v:=fun v hv=>by
 obtain⟨r,_,h⟩:=List.mem_flatMap.1 hv;exact nu_rl r v h
theorem nu_app(h1:∀v∈cs,NU v)(h2:∀v∈vs,NU v):∀v∈cs++vs,NU v:=fun v hv=>(List.mem_append.1 hv).elim (h1 v) (h2 v)
theorem nu_sls(Rs:List Sl):∀v∈Rs.map Sl.v,NU v:=fun v hv=>by
 obtain⟨x,_,rfl⟩:=List.mem_map.1 hv;exact nu_sl _ _ _
theorem MutQ.keep(m:MutQ k ty lo u x cs)(e:ExtX x u u')(h:RatN u r q K):RatN u' r q K:=by
 rcases m.2.2.2 with h1|⟨b,all,h1,h2,_,_,_,h6⟩
 ·refine h.ext ⟨e.size,fun q o ho hh=>e.vis q o (fun a ha=>by rw[h1] at ha;cases ha) ho hh⟩
 exact h.extB0 h2 h6 ⟨e.size,fun q o hq ho hh=>e.vis q o (fun a ha hc=>by rw[h1] at ha;injection ha with ha;subst ha;exact hq hc.symm) ho hh⟩
theorem MutQ.keeps{l:List Rat}(m:MutQ k ty lo u x cs)(e:ExtX x u u')(h:RatsN u L l K):RatsN u' L l K:=⟨h.1,fun i hi=>m.keep e (h.2 i hi)⟩
theorem setL_take{cs:List Value}(h:off+vs.length≤n)(hn:n≤cs.length):(setL cs off vs).take n=setL (cs.take n) off vs:=by
 unfold setL
 rw[List.take_take,Nat.min_eq_left xq,List.take_append,List.take_of_length_le (l:=cs.take off++vs) yw,List.drop_take]
 congr 2
 simp
 rw[Nat.min_eq_left xq]
theorem nu_setL(h1:∀v∈cs,NU v)(h2:∀v∈vs,NU v):∀v∈setL cs off vs,NU v:=fun v hv=>by
 unfold setL at hv
 rcases List.mem_append.1 hv with hv|hv
 ·rcases List.mem_append.1 hv with hv|hv
  ·exact h1 v (List.mem_of_mem_take hv)
  exact h2 v hv
 exact h1 v (List.mem_of_mem_drop hv)
end
section
variable {P:Program} {ops:Array Oper} {w0:Base} {u0:World} {S T:St} {B:Tmp→Nat} {a:Act} {w w' u u' u'' v:World} {o:Oper} {p:List Tmp} {rest:List (Oper×List Tmp)} {K:St→World→Prop}
theorem sy_storeQ{T ty:TypeId}{r:Tmp}{z:Operand}{v:Value}{agg:Bool}{n k lo off b:Nat}{cs:List Value}(x:Sl)(hm:MutQ k ty lo u x cs)(hmay:∀a,x.a=some a→MayB w0 u0 a.block)(hb:x.a=some ⟨b,0,none⟩)(hT:TyIs P T agg n)(hl:off+n≤cs.length)(hnu:∀y∈v.cells.toList,NU y)
  (kk:∀u1,MutQ k ty lo u1 x (setL cs off v.cells.toList)→ExtX x u u1→sym P ops w0 u0 true rest S u1 K)
  (hw:Wants ops o S:=by exact zwf xj) (hd:o.dst=none:=by kernel_rfl) (hop:o.op=.store T (.tmp r) z:=by rfl) (hr:S.reg r=some (.v (.pointer (some ⟨b,off,none⟩))):=by rfl) (hz:evO S z=some (.v v):=by rfl)
  (hn:v.cells.size=n:=by kernel_rfl) (hone:v.cells.toList.all Value.oneCell'=true:=by kernel_rfl):sym P ops w0 u0 true ((o,p)::rest) S u K:=by
 obtain⟨q1,q2,q3,q4⟩:=id hm
 rcases q4 with q4|⟨b',all,g1,g2,g3,g4,g5,g6⟩
 ·subst q4;cases hb
 have hmb:=hmay _ g1;rw[hb] at g1;injection g1 with g1;injection g1 with g1 _ _;subst g1
 have hlv:v.cells.toList.length=n:=by simpa using hn
 have hnk:x.n*k≤all.length:=by rw[g3];exact Nat.mul_le_mul_right _ q2
 refine sy_storeD (b:=b) (off:=off) (cs:=all) (n:=n) g2 hmb hT xq (fun u1 k1 k2=>?_) hw hd hop hr hz hn hone;refine kk u1 ⟨?_,q2,q3,.inr ⟨b,_,hb,k1,?_,?_,g5,nu_setL g6 hnu⟩⟩ (k2.toX hb)
 ·rw[setL_length xq];exact q1
 ·rw[setL_length xq];exact g3
 rw[setL_take xq hnk,g4]
end
structure MatQ(w:Nat)(tO tR:TypeId)(lo:Nat)(u:World)(x:Sl)(Rs:List Sl)(Ls:List (List RL)):Prop where
 out:MutQ 1 tO lo u x (Rs.map Sl.v)
 len:Rs.length=Ls.length
 row:∀i,i<Ls.length→MutQ (w*3) tR lo u (Rs.getD i sl0) (rcs (Ls.getD i []))
 sep:∀i j,i<Ls.length→j<Ls.length→i≠j→Sep (Rs.getD i sl0) (Rs.getD j sl0)
def MatN(u:World)(Ls:List (List RL))(M:List (List Rat))(K:Nat):Prop:=Ls.length=M.length∧∀i,i<M.length→RatsN u (Ls.getD i []) (M.getD i []) K
section
variable {w k lo lo' h b n c i j off:Nat} {tO tR:TypeId} {u u' u'' v:World} {x y z:Sl} {Rs:List Sl} {Ls:List (List RL)} {L:List RL} {M:List (List Rat)} {l:List Rat} {r:RL} {q:Rat} {K K':Nat}
theorem getD_map_v{Rs:List Sl}(h:i<Rs.length):(Rs.map Sl.v)[i]? = some (Rs.getD i sl0).v:=by
 rw[List.getElem?_map,qyg,List.getElem?_eq_getElem h];rfl
theorem MatQ.ext(m:MatQ w tO tR lo u x Rs Ls)(e:Ext u u'):MatQ w tO tR lo u' x Rs Ls:=⟨m.out.ext e,m.len,fun i hi=>(m.row i hi).ext e,m.sep⟩
theorem MatQ.low(m:MatQ w tO tR lo u x Rs Ls)(hl:lo'≤lo):MatQ w tO tR lo' u x Rs Ls:=⟨m.out.low hl,m.len,fun i hi=>(m.row i hi).low hl,m.sep⟩
theorem MatQ.rows(m:MatQ w tO tR lo u x Rs Ls):x.n=Ls.length:=by
 have:=m.out.1;rw[List.length_map,Nat.mul_one] at this;have:=m.len
 omega
theorem MatN.ext(h:MatN u Ls M K)(e:Ext u u'):MatN u' Ls M K:=⟨h.1,fun i hi=>(h.2 i hi).ext e⟩
theorem MatQ.nil(n:Nat)(ho:MutQ 1 tO lo u x ((List.replicate n sl0).map Sl.v)):MatQ w tO tR lo u x (List.replicate n sl0) (List.replicate n []):=by
 have e:∀i,(List.replicate n sl0).getD i sl0=sl0:=fun i=>by
  rw[qyg,List.getElem?_replicate];split<;>rfl
 have e2:∀i,(List.replicate n ([]:List RL)).getD i []=[]:=fun i=>by
  rw[qyg,List.getElem?_replicate];split<;>rfl
 refine⟨ho,by simp,fun i _=>?_,fun i j _ _ _=>?_⟩
 ·rw[e,e2];exact MutQ.nil _ _ _ _
 rw[e];exact fun a b ha=>by cases ha
theorem MatQ.cell(m:MatQ w tO tR lo u x Rs Ls)(hi:i<Ls.length):∃b,x.a=some ⟨b,0,none⟩∧u.cell? ⟨b,0+i*1,none⟩=some (Rs.getD i sl0).v:=by
 obtain⟨b,h1,h2⟩:=m.out.mutL.cell (j:=i) (by rw[List.length_map,m.len];exact hi);refine⟨b,h1,?_⟩;rw[Nat.mul_one,h2,getD_map_v (by rw[m.len];exact hi)]
theorem rcs_part{L:List RL}(h:j+n≤L.length):((rcs L).drop (j*3)).take (n*3)=rcs ((L.drop j).take n):=by
 have hd:∀(L:List RL) (j:Nat),(rcs L).drop (j*3)=rcs (L.drop j):=by
  intro L
  induction L with
  | nil=>intro j;simp[rcs]
  | cons r L ih=>
   intro j
   cases j with
   | zero=>simp
   | succ j=>
    show(r.cs++rcs L).drop ((j+1)*3)=_;rw[List.drop_succ_cons,←ih j,Nat.succ_mul,Nat.add_comm,←List.drop_drop]
    congr 1
 have ht:∀(L:List RL) (n:Nat),n≤L.length→(rcs L).take (n*3)=rcs (L.take n):=by
  intro L
  induction L with
  | nil=>intro n h;simp[rcs]
  | cons r L ih=>
   intro n h
   cases n with
   | zero=>simp[rcs]
   | succ n=>
    show(r.cs++rcs L).take ((n+1)*3)=r.cs++rcs (L.take n);rw[List.take_append,List.take_of_length_le (by simp[RL.cs];omega),←ih n (by simpa using h)]
    congr 2
    simp[RL.cs];omega
 rw[hd,ht _ _ (by rw[List.length_drop];omega)]
theorem MutQ.el{ty:TypeId}(hw:0<w)(m:MutQ (w*3) ty lo u y (rcs L))(hj:j*w+w≤L.length):∃b,y.a=some ⟨b,0,none⟩∧∀q,q<(rcs ((L.drop (j*w)).take w)).length→u.cell? ⟨b,0+j*(w*3)+q,none⟩=(rcs ((L.drop (j*w)).take w))[q]? := by
 have hl:(rcs L).length=L.length*3:=zyx;obtain⟨b,h1,_⟩:=m.mutL.cell (j:=0) (by rw[hl];omega);refine⟨b,h1,fun q hq=>?_⟩
 have hq':q<w*3:=by
  rw[zyx,List.length_take,List.length_drop,Nat.min_eq_left xq] at hq;exact hq
 have hlt:j*(w*3)+q<(rcs L).length:=by
  rw[hl];have:j*(w*3)=(j*w)*3:=by rw[Nat.mul_assoc]
  omega
 obtain⟨b2,h2,h3⟩:=m.mutL.cell (j:=j*(w*3)+q) hlt;rw[h1] at h2;injection h2 with h2;injection h2 with h2 _ _;subst h2
 rw[Nat.add_assoc,h3,←rcs_part hj,List.getElem?_take_of_lt hq',List.getElem?_drop,Nat.mul_assoc]
theorem getD_set_same{α:Type}{l:List α}{a z:α}(h:i<l.length):(l.set i a).getD i z=a:=by simp[h]
theorem getD_set_other{α:Type}{l:List α}{a z:α}(h:i≠j):(l.set i a).getD j z=l.getD j z:=by simp[h]
theorem MatQ.storeRow(hT:tO≠tR)(m:MatQ w tO tR lo u x Rs Ls)(hi:i<Ls.length)(h:MutQ (w*3) tR lo u' (Rs.getD i sl0) (rcs L))(e:ExtX (Rs.getD i sl0) u u'):MatQ w tO tR lo u' x Rs (Ls.set i L):=by
 refine⟨m.out.extT (e.t (m.row i hi).mutL) hT,by rw[List.length_set];exact m.len,fun j hj=>?_,fun a b ha hb=>?_⟩
 ·rw[List.length_set] at hj
  by_cases hij:i=j
  ·subst hij;rw[getD_set_same hj];exact h
  rw[getD_set_other hij];exact(m.row j hj).extS e (m.sep i j hi hj hij)
 rw[List.length_set] at ha hb;exact m.sep a b ha hb
theorem MatQ.storeOut(hT:tR≠tO)(m:MatQ w tO tR lo u x Rs Ls)(hi:i<Ls.length)(ho:MutQ 1 tO lo u' x ((Rs.set i y).map Sl.v))(e:ExtX x u u')(hy:MutQ (w*3) tR lo u y (rcs L))(hs:∀j,j<Ls.length→j≠i→Sep y (Rs.getD j sl0)):MatQ w tO tR lo u' x (Rs.set i y) (Ls.set i L):=by
 have eT:=e.t m.out.mutL;have hir:i<Rs.length:=by rw[m.len];exact hi
 refine⟨ho,by rw[List.length_set,List.length_set];exact m.len,fun j hj=>?_,fun a b ha hb hab=>?_⟩
 ·rw[List.length_set] at hj
  by_cases hij:i=j
  ·subst hij;rw[getD_set_same hj,getD_set_same hir];exact hy.extT eT hT
  rw[getD_set_other hij,getD_set_other hij];exact(m.row j hj).extT eT hT
 rw[List.length_set] at ha hb
 by_cases h1:i=a
 ·subst h1;rw[getD_set_same hir,getD_set_other hab];exact hs b hb (Ne.symm hab)
 rw[getD_set_other h1]
 by_cases h2:i=b
 ·subst h2;rw[getD_set_same hir];exact(hs a ha (Ne.symm h1)).symm
 rw[getD_set_other h2];exact m.sep a b ha hb hab
theorem MatQ.swap{p t:Nat}(hT:tR≠tO)(m:MatQ w tO tR lo u x Rs Ls)(hp:p<Ls.length)(ht:t<Ls.length)(ho:MutQ 1 tO lo u' x (((Rs.set p (Rs.getD t sl0)).set t (Rs.getD p sl0)).map Sl.v))(e:ExtX x u u'):
  MatQ w tO tR lo u' x ((Rs.set p (Rs.getD t sl0)).set t (Rs.getD p sl0)) ((Ls.set p (Ls.getD t [])).set t (Ls.getD p [])):=by
 have eT:=e.t m.out.mutL;have hl:=m.len
 have key:∀{α:Type} (l:List α) (z:α),p<l.length→t<l.length→∀j,((l.set p (l.getD t z)).set t (l.getD p z)).getD j z=l.getD (if j=t then p else if j=p then t else j) z:=by
  intro α l z h1 h2 j
  by_cases hjt:j=t
  ·subst hjt;rw[if_pos rfl,getD_set_same (by simpa using h2)]
  rw[if_neg hjt,getD_set_other (Ne.symm hjt)]
  by_cases hjp:j=p
  ·subst hjp;rw[if_pos rfl,getD_set_same h1]
  rw[if_neg hjp,getD_set_other (Ne.symm hjp)]
 have hlt:∀j,j<Ls.length→(if j=t then p else if j=p then t else j)<Ls.length:=fun j hj=>by split<;>(try split)<;>omega
 refine⟨ho,by simp[hl],fun j hj=>?_,fun a b ha hb hab=>?_⟩
 ·simp only[List.length_set] at hj
  rw[key Rs sl0 xq xq,key Ls [] hp ht];exact(m.row _ (hlt j hj)).extT eT hT
 simp only[List.length_set] at ha hb
 rw[key Rs sl0 xq xq,key Rs sl0 xq xq];refine m.sep _ _ (hlt a ha) (hlt b hb) ?_
 split<;>split<;>(try split)<;>(try split)<;>omega
theorem MatQ.fresh{n c:Nat}(m:MatQ w tO tR lo u x Rs Ls)(hb:u.heap.size≤b):∀j,j<Ls.length→Sep ⟨some ⟨b,0,none⟩,n,c⟩ (Rs.getD j sl0):=fun j hj a a' h1 h2 hc=>by
 injection h1 with h1;subst h1
 have h3:=(m.row j hj).mutL.lt h2;have hc:b=a'.block:=hc
 omega
theorem MatN.set(h:MatN u Ls M K)(hL:RatsN u L l K):MatN u (Ls.set i L) (M.set i l) K:=by
 refine⟨by rw[List.length_set,List.length_set];exact h.1,fun j hj=>?_⟩;rw[List.length_set] at hj
 by_cases hij:i=j
 ·subst hij;rw[getD_set_same (by rw[h.1];exact hj),getD_set_same hj];exact hL
 rw[getD_set_other hij,getD_set_other hij];exact h.2 j hj
theorem MatN.keep{k:Nat}{ty:TypeId}{cs:List Value}(h:MatN u Ls M K)(m:MutQ k ty lo u y cs)(e:ExtX y u u'):MatN u' Ls M K:=⟨h.1,fun i hi=>m.keeps e (h.2 i hi)⟩
theorem setL_map{Rs:List Sl}(h:i<Rs.length):setL (Rs.map Sl.v) (0+i*1) (Value.slice y.a y.n y.c).cells.toList=(Rs.set i y).map Sl.v:=by
 have:=setL_cons (cs:=Rs.map Sl.v) (off:=i) (v:=y.v) (vs:=[]) (by rw[List.length_map];exact h);rw[setL_nil] at this;rw[List.map_set,Nat.zero_add,Nat.mul_one];exact this.symm
theorem rats_set{T:List Rat}(h:RatsN u L T K)(hj:j<T.length)(hr:RatN u r q K):RatsN u (L.set j r) (T.set j q) K:=by
 refine⟨by rw[List.length_set,List.length_set];exact h.1,fun i hi=>?_⟩;rw[List.length_set] at hi
 by_cases e:j=i
 ·subst e;rw[getD_set_same (by rw[h.1];exact hj),getD_set_same hj];exact hr
 rw[getD_set_other e,getD_set_other e];exact h.2 i hi
theorem two_rcs(r1 r2:RL):r1.cs++r2.cs=rcs [r1,r2]:=by simp[rcs]
theorem setL_two{r1 r2:RL}(h:2*j+1<L.length):setL (rcs L) (0+j*(2*3)) (r1.cs++r2.cs)=rcs ((L.set (2*j) r1).set (2*j+1) r2):=by
 have e1:=zyw (L:=L) (r:=r1) (i:=2*j) (off:=2*j*3) xq rfl;have e2:=zyw (L:=L.set (2*j) r1) (r:=r2) (i:=2*j+1) (off:=(2*j+1)*3) (by rw[List.length_set];omega) rfl;rw[←e2,←e1];have hl:(rcs L).length=L.length*3:=zyx;have k1:r1.v.cells.toList=r1.cs:=rfl;have k2:r2.v.cells.toList=r2.cs:=rfl;have l1:r1.cs.length=3:=rfl;have l2:r2.cs.length=3:=rfl;rw[k1,k2]
 unfold setL
 rw[l1,l2,List.length_append,l1,l2];have e3:0+j*(2*3)=2*j*3:=by omega
 have e4:(2*j+1)*3=2*j*3+3:=by omega
 rw[e3,e4]
 have e5:(List.take (2*j*3) (rcs L)++r1.cs++List.drop (2*j*3+3) (rcs L)).take (2*j*3+3)=List.take (2*j*3) (rcs L)++r1.cs:=by
  rw[List.take_append_of_le_length (by rw[List.length_append,List.length_take,l1];omega),List.take_of_length_le (by rw[List.length_append,List.length_take,l1];omega)]
 have e6:(List.take (2*j*3) (rcs L)++r1.cs++List.drop (2*j*3+3) (rcs L)).drop (2*j*3+3+3)=List.drop (2*j*3+3+3) (rcs L):=by
  rw[List.drop_append,List.drop_of_length_le (by rw[List.length_append,List.length_take,l1];omega),List.nil_append,List.drop_drop]
  congr 1
  rw[List.length_append,List.length_take,l1];omega
 rw[e5,e6,show 2*j*3+(3+3)=2*j*3+3+3 from rfl]
 simp only[List.append_assoc]
theorem made_rcs2(n:Nat):(madeCells (Value.agg #[.bool false,qyn,qyn,.bool false,qyn,qyn]).cells (n*6)).toList=rcs (List.replicate (2*n) rl0):=by
 rw[←made_rcs (2*n),show 2*n*3=n*6 by omega]
 congr 1
 unfold madeCells
 congr 1
 funext j
 have h6:=Nat.mod_lt j (show 0<6 by decide);have h:j%6=0∨j%6=1∨j%6=2∨j%6=3∨j%6=4∨j%6=5:=by omega
 have e3:j%3=j%6%3:=by omega
 have s6:(Value.agg #[.bool false,qyn,qyn,.bool false,qyn,qyn]).cells.size=6:=rfl;have s3:(Value.agg #[.bool false,qyn,qyn]).cells.size=3:=rfl;rw[s6,s3,e3]
 rcases h with h|h|h|h|h|h<;>rw[h]<;>rfl
theorem made_sls(n:Nat):(madeCells (Value.slice none 0 0).cells (n*1)).toList=(List.replicate n sl0).map Sl.v:=by
 unfold madeCells
 rw[List.map_replicate];refine List.eq_replicate_iff.2 ⟨by simp,fun b hb=>?_⟩
 simp at hb
 obtain⟨x,_,rfl⟩:=hb;have s1:(Value.slice none 0 0).cells.size=1:=rfl;rw[s1,Nat.mod_one];rfl
theorem MutQ.el1{ty:TypeId}(m:MutQ (1*3) ty lo u y (rcs L))(hj:j<L.length):∃b,y.a=some ⟨b,0,none⟩∧∀q,q<(L.getD j rl0).cs.length→u.cell? ⟨b,0+j*3+q,none⟩=(L.getD j rl0).cs[q]? := by
 obtain⟨b,h1,h2⟩:=m.el (j:=j) xw xq;refine⟨b,h1,fun q hq=>?_⟩
 have e:(L.drop (j*1)).take 1=[L.getD j rl0]:=by
  rw[Nat.mul_one,qyg,List.getElem?_eq_getElem hj,List.drop_eq_getElem_cons hj];rfl
 rw[e] at h2;have e2:rcs [L.getD j rl0]=(L.getD j rl0).cs:=by simp[rcs]
 rw[e2] at h2;exact h2 q hq
theorem MutQ.el2{ty:TypeId}(m:MutQ (2*3) ty lo u y (rcs L))(hj:2*j+1<L.length):∃b,y.a=some ⟨b,0,none⟩∧∀q,q<((L.getD (2*j) rl0).cs++(L.getD (2*j+1) rl0).cs).length→u.cell? ⟨b,0+j*6+q,none⟩=((L.getD (2*j) rl0).cs++(L.getD (2*j+1) rl0).cs)[q]? := by
 obtain⟨b,h1,h2⟩:=m.el (j:=j) xw xq;refine⟨b,h1,fun q hq=>?_⟩
 have e:(L.drop (j*2)).take 2=[L.getD (2*j) rl0,L.getD (2*j+1) rl0]:=by
  rw[Nat.mul_comm j 2,qyg,List.getElem?_eq_getElem (show 2*j<L.length by omega),qyg,List.getElem?_eq_getElem hj,List.drop_eq_getElem_cons (show 2*j<L.length by omega),List.drop_eq_getElem_cons hj];rfl
 rw[e,←two_rcs] at h2;exact h2 q hq
def RatsP(u:World)(L:List RL)(T:List Rat)(m K:Nat):Prop:=∀i,i<m→RatN u (L.getD i rl0) (T.getD i 0) K
theorem RatsP.ext{m:Nat}{T:List Rat}(h:RatsP u L T m K)(e:Ext u u'):RatsP u' L T m K:=fun i hi=>(h i hi).ext e
theorem RatsP.zero(u:World)(L:List RL)(T:List Rat)(K:Nat):RatsP u L T 0 K:=fun i hi=>absurd hi (Nat.not_lt_zero i)
theorem RatsP.keep{m k:Nat}{T:List Rat}{ty:TypeId}{cs:List Value}(h:RatsP u L T m K)(mq:MutQ k ty lo u y cs)(e:ExtX y u u'):RatsP u' L T m K:=fun i hi=>mq.keep e (h i hi)
theorem RatsP.two{T:List Rat}{r1 r2:RL}{q1 q2:Rat}(h:RatsP u L T (2*j) K)(hl:2*j+1<L.length)(h1:RatN u r1 q1 K)(h2:RatN u r2 q2 K)(e1:q1=T.getD (2*j) 0)(e2:q2=T.getD (2*j+1) 0):RatsP u ((L.set (2*j) r1).set (2*j+1) r2) T (2*(j+1)) K:=fun i hi=>by
 subst e1 e2
 by_cases g1:2*j+1=i
 ·subst g1;rw[getD_set_same (by rw[List.length_set];omega)];exact h2
 rw[getD_set_other g1]
 by_cases g2:2*j=i
 ·subst g2;rw[getD_set_same xq];exact h1
 rw[getD_set_other g2];exact h i xq
theorem RatsP.one{T:List Rat}{r1:RL}{q1:Rat}(h:RatsP u L T j K)(hl:j<L.length)(h1:RatN u r1 q1 K)(e1:q1=T.getD j 0):RatsP u (L.set j r1) T (j+1) K:=fun i hi=>by
 subst e1
 by_cases g2:j=i
 ·subst g2;rw[getD_set_same hl];exact h1
 rw[getD_set_other g2];exact h i xq
theorem RatsP.full{m:Nat}{T:List Rat}(h:RatsP u L T m K)(hm:L.length=m)(hT:T.length=m):RatsN u L T K:=⟨by omega,fun i hi=>h i xq⟩
def MatP(u:World)(Ls:List (List RL))(M:List (List Rat))(m K:Nat):Prop:=∀i,i<m→RatsN u (Ls.getD i []) (M.getD i []) K
theorem MatP.ext{m:Nat}(h:MatP u Ls M m K)(e:Ext u u'):MatP u' Ls M m K:=fun i hi=>(h i hi).ext e
theorem MatP.zero(u:World)(Ls:List (List RL))(M:List (List Rat))(K:Nat):MatP u Ls M 0 K:=fun i hi=>absurd hi (Nat.not_lt_zero i)
theorem MatP.keep{m k:Nat}{ty:TypeId}{cs:List Value}(h:MatP u Ls M m K)(mq:MutQ k ty lo u y cs)(e:ExtX y u u'):MatP u' Ls M m K:=fun i hi=>mq.keeps e (h i hi)
theorem MatP.set{m:Nat}(h:MatP u Ls M m K)(hi:m≤i):MatP u (Ls.set i L) M m K:=fun j hj=>by
 rw[getD_set_other (show i≠j by omega)];exact h j hj
theorem MatP.next{m:Nat}(h:MatP u Ls M m K)(hL:RatsN u (Ls.getD m []) (M.getD m []) K):MatP u Ls M (m+1) K:=fun j hj=>by
 rcases Nat.lt_or_ge j m with h1|h1
 ·exact h j h1
 rw[show j=m by omega];exact hL
theorem MatP.full{m:Nat}(h:MatP u Ls M m K)(h1:Ls.length=m)(h2:M.length=m):MatN u Ls M K:=⟨by omega,fun i hi=>h i xq⟩
end
namespace Nt
def prs(f:Nat→Rat×Rat):Nat→List Rat
 | 0=>[]
 | n+1=>prs f n++[(f n).1,(f n).2]
section
variable {f g:Nat→Rat×Rat} {n j:Nat}
theorem prs_len:(prs f n).length=2*n:=by
 induction n with
 | zero=>rfl
 | succ n ih=>unfold prs;rw[List.length_append,ih];rfl
theorem prs_at(h:j<n):(prs f n).getD (2*j) 0=(f j).1∧(prs f n).getD (2*j+1) 0=(f j).2:=by
 induction n with
 | zero=>omega
 | succ n ih=>
  unfold prs
  by_cases e:j<n
  ·obtain⟨h1,h2⟩:=ih e;have hl:=prs_len (f:=f) (n:=n);rw[qyg,qyg,List.getElem?_append_left xq,List.getElem?_append_left xq,←qyg,←qyg];exact⟨h1,h2⟩
  have e2:j=n:=by omega
  subst e2;have hl:=prs_len (f:=f) (n:=j);rw[qyg,qyg,List.getElem?_append_right xq,List.getElem?_append_right xq,hl,Nat.sub_self,show 2*j+1-2*j=1 by omega];exact⟨rfl,rfl⟩
end
def dmS(n b k:Nat):Rat×Rat:=if k=0 then(gr b (rtN (((1:Int):Rat)/((n:Int):Rat)) 2 b:Int),gr b (rtH (((1:Int):Rat)/((n:Int):Rat)) 2 b)) else(gr b (rtN (((2:Int):Rat)/((n:Int):Rat)) 2 b:Int),gr b (rtH (((2:Int):Rat)/((n:Int):Rat)) 2 b))
noncomputable section
def dmC(n b p:Nat):Rat×Rat:=cosV (p:Int) (2*n) b
def dmE(n b k j:Nat):Rat×Rat:=(lo4 ((dmS n b k).1*(dmC n b ((2*j+1)*k)).1) ((dmS n b k).1*(dmC n b ((2*j+1)*k)).2) ((dmS n b k).2*(dmC n b ((2*j+1)*k)).1) ((dmS n b k).2*(dmC n b ((2*j+1)*k)).2),hi4 ((dmS n b k).1*(dmC n b ((2*j+1)*k)).1) ((dmS n b k).1*(dmC n b ((2*j+1)*k)).2) ((dmS n b k).2*(dmC n b ((2*j+1)*k)).1) ((dmS n b k).2*(dmC n b ((2*j+1)*k)).2))
def dmRow(n b k:Nat):List Rat:=prs (dmE n b k) n
def dmM(n b:Nat):List (List Rat):=(List.range n).map (dmRow n b)
def dmT(n b:Nat):List Rat:=prs (dmC n b) (4*n)
theorem dmM_len(n b:Nat):(dmM n b).length=n:=by simp[dmM]
theorem dmM_at{n b k:Nat}(h:k<n):(dmM n b).getD k []=dmRow n b k:=by
 unfold dmM
 rw[qyg,List.getElem?_map,List.getElem?_range h];rfl
theorem dmRow_len(n b k:Nat):(dmRow n b k).length=2*n:=prs_len
theorem dmC_mod{n b p:Nat}(hn:0<n):dmC n b (p%(4*n))=dmC n b p:=by
 unfold dmC
 have h:=Nat.div_add_mod p (4*n)
 have e:(p:Int)=((p%(4*n):Nat):Int)+2*((2*n:Nat):Int)*((p/(4*n):Nat):Int):=by
  have:(p:Int)=(((4*n)*(p/(4*n))+p%(4*n):Nat):Int):=by rw[h]
  rw[this,Int.natCast_add,Int.natCast_mul,Int.natCast_mul,Int.natCast_mul]
  grind
 rw[e,cosV_turn xq]
end
end Nt
end Go.Proofs.YtcpnfblekhgmgaaGreat
namespace Go.Proofs.YtcpnfblekhgmgaaGreat
open Nt
namespace Nt
def up(M:Nat→Nat→Rat)(k:Nat)(v:Nat→Rat):Nat→Nat→Rat:=fun r=>if r=k then v else M r
end Nt
end Go.Proofs.YtcpnfblekhgmgaaGreat
namespace Go.Proofs.YtcpnfblekhgmgaaGreat
open Nt
open Go.RowKit
section
variable {P:Program} {ops:Array Oper} {w0:Base} {u0:World} {S:St} {u:World}
def exitsK(P:Program)(ops:Array Oper)(w0:Base)(u0:World)(K:List (Nat×List Tmp)→St→World→Prop):List (Nat×List Tmp)→St→World→Prop
 | [],S,u=>K [] S u
 | p::F,S,u=>K (p::F) S u∧sym P ops w0 u0 false [opAt ops p] S u (exitsK P ops w0 u0 K F)
theorem zwp{K:List (Nat×List Tmp)→St→World→Prop}(hK:∀F,Mono (K F)):∀F,Mono (exitsK P ops w0 u0 K F)
 | []=>hK []
 | p::F=>fun S u u' e h=>⟨hK _ S u u' e h.1,zwc (zwp hK F) S u u' e h.2⟩
theorem exitsK_now{K:List (Nat×List Tmp)→St→World→Prop}{F:List (Nat×List Tmp)}(h:exitsK P ops w0 u0 K F S u):K F S u:=by
 cases F with
 | nil=>exact h
 | cons p F=>exact h.1
theorem sym_app{K:St→World→Prop}(hK:Mono K){seq:Bool}:∀(l1 l2:List (Oper×List Tmp)) (S:St) (u:World),sym P ops w0 u0 seq l1 S u (fun S u=>sym P ops w0 u0 seq l2 S u K)→sym P ops w0 u0 seq (l1++l2) S u K
 | [],l2,S,u,h=>h
 | e::l1,l2,S,u,h=>one_mono (w0:=w0) (u0:=u0) (fun S u h=>sym_app hK l1 l2 S u h) (zwc (zwc hK)) (Ext.refl u) h
theorem sym_mono_k{K K':St→World→Prop}{seq:Bool}:∀{l:List (Oper×List Tmp)} {S:St} {u:World},(∀S u,K S u→K' S u)→Mono K→sym P ops w0 u0 seq l S u K→sym P ops w0 u0 seq l S u K'
 | [],S,u,hk,_,h=>hk S u h
 | e::l,S,u,hk,hm,h=>one_mono (w0:=w0) (u0:=u0) (fun S u h=>sym_mono_k hk hm h) (zwc hm) (Ext.refl u) h
def backB(ops:Array Oper):List (Nat×List Tmp)→Bool
 | []=>true
 | x::l=>l.all (fun y => !((ops.getD x.1 default).after.toList.any fun e=>Region.binds .any e&&e.on==y.1))&&backB ops l
theorem backB_spec:∀{l:List (Nat×List Tmp)},backB ops l=true→l.Pairwise (fun x y=>((ops.getD x.1 default).after.toList.any fun e=>Region.binds .any e&&e.on==y.1)=false)
 | [],_=>List.Pairwise.nil
 | x::l,h=>by
  simp only[backB,Bool.and_eq_true] at h
  exact List.Pairwise.cons (fun y hy=>by have:=List.all_eq_true.1 h.1 y hy;simpa using this) (backB_spec h.2)
structure LeftX(ops:Array Oper)(M:List Nat)(L:List (Nat×List Tmp))(listed:Array Bool):Prop where
 nodup:(L.map (·.1)).Nodup
 back:L.Pairwise (fun x y=>((ops.getD x.1 default).after.toList.any fun e=>Region.binds .any e&&e.on==y.1)=false)
 size:listed.size=ops.size
 mem:∀i,i<ops.size→(listed.getD i true=false↔i∈L.map (·.1))
 lt:∀x∈L,x.1<ops.size∧∀e∈(ops.getD x.1 default).after,Region.binds .any e=true→e.on≠x.1∧e.on<ops.size
 mask:∀x∈L,M.getD x.1 0=reachOf M (ops.getD x.1 default)
 closed:∀j,j<ops.size→j∉L.map (·.1)→∀x,(M.getD j 0).testBit x=true→x∉L.map (·.1)
theorem LeftX.ready_mem{M:List Nat}{L:List (Nat×List Tmp)}{listed:Array Bool}(h:LeftX ops M L listed){i:Nat}(hi:i∈Region.ready .any ops listed):i<ops.size∧i∈L.map (·.1)∧∀e∈(ops.getD i default).after,Region.binds .any e=true→e.on∉L.map (·.1):=by
 obtain⟨h0,o,ho,hall⟩:=mem_ready.1 hi;have hlt:i<ops.size:=(Array.getElem?_eq_some_iff.1 ho).1;have hm:=(h.mem i hlt).1 h0;refine⟨hlt,hm,fun e he hb=>?_⟩;rw[get_op hlt] at ho
 injection ho with ho
 obtain⟨x,hx,hxi⟩:=List.mem_map.1 hm;have hl:=((h.lt x hx).2 e (by rw[hxi];exact he) hb).2;have:=hall e (by rw[←ho];exact he) hb;rw[listed_iff (by rw[h.size];exact hl),h.mem e.on hl] at this;exact this
theorem LeftX.head_ready{M:List Nat}{x:Nat×List Tmp}{L:List (Nat×List Tmp)}{listed:Array Bool}(h:LeftX ops M (x::L) listed):x.1∈Region.ready .any ops listed:=by
 obtain⟨h1,h2⟩:=h.lt x (List.mem_cons_self ..);refine mem_ready.2 ⟨(h.mem x.1 h1).2 (by simp),_,get_op h1,fun e he hb=>?_⟩;obtain⟨h3,h4⟩:=h2 e he hb;rw[listed_iff (by rw[h.size];exact h4),h.mem e.on h4];intro hm;obtain⟨y,hy,hye⟩:=List.mem_map.1 hm
 rcases List.mem_cons.1 hy with rfl|hy
 ·exact h3 hye.symm
 have:=(List.pairwise_cons.1 h.back).1 y hy;have h5:((ops.getD x.1 default).after.toList.any fun e=>Region.binds .any e&&e.on==y.1)=true:=List.any_eq_true.2 ⟨e,by simpa using he,by simp[hb,hye]⟩;rw[h5] at this;cases this
theorem LeftX.out{M:List Nat}{L:List (Nat×List Tmp)}{listed:Array Bool}(h:LeftX ops M L listed){x:Nat×List Tmp}(hx:x∈L)(hout:∀e∈(ops.getD x.1 default).after,Region.binds .any e=true→e.on∉L.map (·.1)):
  ∀j,(M.getD x.1 0).testBit j=true→j∉L.map (·.1):=by
 intro j hj;rw[h.mask x hx] at hj
 rcases foldl_bit M j _ _ hj with h0|⟨e,he,hb,h1⟩
 ·simp at h0
 have he':e∈(ops.getD x.1 default).after:=by simpa using he
 have hn:=hout e he' hb
 rcases h1 with rfl|h1
 ·exact hn
 exact h.closed e.on ((h.lt x hx).2 e he' hb).2 hn j h1
theorem LeftX.step{M:List Nat}{pre post:List (Nat×List Tmp)}{y:Nat×List Tmp}{listed:Array Bool}(hL:LeftX ops M (pre++y::post) listed)(hro:∀j,(M.getD y.1 0).testBit j=true→j∉(pre++y::post).map (·.1)):LeftX ops M (pre++post) (listed.setIfInBounds y.1 true):=by
 have hsub:(pre++post).Sublist (pre++y::post):=List.Sublist.append_left (List.sublist_cons_self _ _) _
 have hyn:y.1∉(pre++post).map (·.1):=by
  have:=hL.nodup;rw[List.map_append,List.map_cons] at this;have h2:=List.nodup_append.1 this;have h3:=(List.nodup_cons.1 h2.2.1).1;intro hm;rw[List.map_append] at hm
  rcases List.mem_append.1 hm with hm|hm
  ·exact h2.2.2 y.1 hm y.1 (List.mem_cons_self ..) rfl
  exact h3 hm
 have hmem:∀j,j≠y.1→(j∈(pre++post).map (·.1)↔j∈(pre++y::post).map (·.1)):=fun j hj=>by simp[hj]
 refine⟨hL.nodup.sublist (hsub.map _),hL.back.sublist hsub,by simp[hL.size],fun j hj=>?_,fun x hx=>hL.lt x (hsub.mem hx),fun x hx=>hL.mask x (hsub.mem hx),fun j hj hjn x hx=>?_⟩
 ·by_cases e:j=y.1
  ·subst e
   constructor
   ·intro h
    simp[hL.size,hj] at h
   intro h;exact absurd h hyn
  rw[getD_set_ne true (Ne.symm e),hmem j e];exact hL.mem j hj
 intro hmx
 by_cases e:j=y.1
 ·subst e;exact hro x hx ((hsub.map _).mem hmx)
 exact hL.closed j hj (fun h=>hjn ((hmem j e).2 h)) x hx ((hsub.map _).mem hmx)
theorem chainB_pair{M:List Nat}:∀{L:List (Nat×List Tmp)},chainB M L=true→L.Pairwise (fun x y=>(M.getD y.1 0).testBit x.1=true)
 | [],_=>List.Pairwise.nil
 | x::l,h=>by
  simp only[chainB,Bool.and_eq_true,List.all_eq_true] at h
  exact List.Pairwise.cons h.1 (chainB_pair h.2)
theorem LeftX.toLeft{M:List Nat}{L:List (Nat×List Tmp)}{listed:Array Bool}(h:LeftX ops M L listed)(hc:chainB M L=true):Left ops M L listed:=
 ⟨h.nodup,List.Pairwise.imp₂ (fun x y (h1:(M.getD y.1 0).testBit x.1=true) h2=>by simp only[pairOk,Bool.and_eq_true,Bool.or_eq_true,Bool.not_eq_true'];exact⟨.inl h1,h2⟩) (chainB_pair hc) h.back,h.size,h.mem,h.lt,h.mask,h.closed⟩
theorem any_symE{M:List Nat}{T:List (Nat×List Tmp)}{y:Nat×List Tmp}{K:List (Nat×List Tmp)→St→World→Prop}{Q:Exit→Act→World→Prop}(hK:∀F,Mono (K F))
  (hQ:∀F S u,K F S u→∀B a w,Rep w0 u0 S B a w u→wpList P ops Q ((y::(F++T)).map fun x=>ops.getD x.1 default) a w) (hyT:∀t∈T,(M.getD t.1 0).testBit y.1=true) :
  ∀(fuel:Nat) (L F:List (Nat×List Tmp)) (listed:Array Bool) (S:St) (B:Tmp→Nat) (a:Act) (w u:World),L.length+F.length=fuel→chainB M (F++T)=true→(L++F).Pairwise (fun x y=>pairOk ops M x y=true)→LeftX ops M (L++F++y::T) listed→(∀x∈L,(M.getD y.1 0).testBit x.1=true)→(∀x∈L++F,∀t∈T,(M.getD t.1 0).testBit x.1=true)→Rep w0 u0 S B a w u →
   sym P ops w0 u0 false (L.map (opAt ops)) S u (exitsK P ops w0 u0 K F)→wpAny P .any ops Q (fuel+1+T.length) listed a w:=by
 intro fuel
 induction fuel with
 | zero=>
  intro L F listed S B a w u hl hc hp hL hy hT hr hs;obtain rfl:=List.length_eq_zero_iff.1 (show L.length=0 by omega);obtain rfl:=List.length_eq_zero_iff.1 (show F.length=0 by omega)
  have hcc:chainB M (y::T)=true:=by
   simp only[chainB,Bool.and_eq_true,List.all_eq_true]
   exact⟨fun t ht=>hyT t ht,by simpa using hc⟩
  rw[Nat.zero_add,Nat.add_comm];have h9:=hQ [] S u hs B a w hr;exact any_chain (y::T) listed a w ((show LeftX ops M (y::T) listed from hL).toLeft hcc) hcc (by simpa using h9)
 | succ fuel ih=>
  intro L F listed S B a w u hl hc hp hL hy hT hr hs;rw[show fuel+1+1+T.length=(fuel+1+T.length)+1 by omega];refine⟨fun e=>?_,fun i hi=>?_⟩
  ·cases hLF:L++F with
   | nil=>have h8:=congrArg List.length hLF;rw[List.length_append] at h8;rw[h8] at hl;cases hl
   | cons x L'=>
    rw[hLF] at hL;have:=LeftX.head_ready (L:=L'++y::T) hL;rw[e] at this
    cases this
  obtain⟨hlt,hm,hout⟩:=hL.ready_mem hi;obtain⟨z,hz,rfl⟩:=List.mem_map.1 hm;have hro:=hL.out hz hout;have key:ops[z.1]? = some (opAt ops z).1:=get_op hlt
  -- an operation of the first ones: what stands before it may stand behind it
  have front:∀(pre post F':List (Nat×List Tmp)),L++F++y::T=pre++z::(post++F'++y::T)→(pre++z::post).Pairwise (fun x y=>pairOk ops M x y=true)→(pre++post++F').Pairwise (fun x y=>pairOk ops M x y=true)→pre.length+post.length+F'.length=fuel→chainB M (F'++T)=true→(∀x∈pre++post,(M.getD y.1 0).testBit x.1=true)→(∀x∈pre++post++F',∀t∈T,(M.getD t.1 0).testBit x.1=true) →
    sym P ops w0 u0 false ((pre++z::post).map (opAt ops)) S u (exitsK P ops w0 u0 K F')→wpOp P ops Q z.1 (wpAny P .any ops Q (fuel+1+T.length) (listed.setIfInBounds z.1 true)) a w:=by
   intro pre post F' he ab ad hfl hc' hy' hT' hs'
   have hsw:∀x∈pre.map (opAt ops),swapOk ops x (opAt ops z)=true:=by
    intro x hx;obtain⟨x',hx',rfl⟩:=List.mem_map.1 hx;have:=(List.pairwise_append.1 ab).2.2 x' hx' z (List.mem_cons_self ..)
    simp only[pairOk,Bool.and_eq_true,Bool.or_eq_true] at this
    rcases this.1 with h1|h1
    ·exact absurd (List.mem_map.2 ⟨x',by rw[he];simp[hx'],rfl⟩) (hro x'.1 h1)
    exact h1
   rw[List.map_append,List.map_cons] at hs';have hone:=bubble (zwp hK F') (pre.map (opAt ops)) S u hr.wf hsw hs';have hsound:=one_sound (Q:=Q) (zwc (zwp hK F')) hone (Ext.refl _) hr;rw[he] at hL hro;have hL':=LeftX.step hL hro
   have hfin:∀a' w',(∃S' B' u'',Rep w0 u0 S' B' a' w' u''∧(false=false→Ext u u'')∧sym P ops w0 u0 false (pre.map (opAt ops)++post.map (opAt ops)) S' u'' (exitsK P ops w0 u0 K F'))→wpAny P .any ops Q (fuel+1+T.length) (listed.setIfInBounds z.1 true) a' w':=by
    rintro a' w' ⟨S',B',u'',g1,_,g3⟩;refine ih (pre++post) F' _ S' B' a' w' u'' (by rw[List.length_append];exact hfl) hc' ad ?_ hy' hT' g1 ?_
    ·simpa[List.append_assoc] using hL'
    rw[List.map_append];exact g3
   simp only[wpOp,key]
   split
   ·rename_i hw
    rw[if_pos hw] at hsound;exact .inl (Oper.wp_mono hfin hsound)
   rename_i hw
   rw[if_neg hw] at hsound;exact hfin _ _ hsound
  rcases List.mem_append.1 hz with hz1|hz1
  ·rcases List.mem_append.1 hz1 with hzL|hzF
   ·obtain⟨pre,post,rfl⟩:=List.append_of_mem hzL;refine front pre post F (by simp[List.append_assoc]) (List.pairwise_append.1 hp).1 ?_ (by simp at hl ⊢;omega) hc (fun x hx=>hy x (by simp at hx ⊢;rcases hx with h|h<;>simp[h])) (fun x hx=>hT x (by simp at hx ⊢;rcases hx with h|h|h<;>simp[h])) hs;refine hp.sublist ?_;rw[List.append_assoc,List.append_assoc,List.cons_append];exact List.Sublist.append_left (List.sublist_cons_self _ _) _
   cases F with
   | nil=>cases hzF
   | cons p F=>
    have hzp:z=p:=by
     rcases List.mem_cons.1 hzF with h|h
     ·exact h
     rw[List.cons_append] at hc
     simp only[chainB,Bool.and_eq_true,List.all_eq_true] at hc
     exact absurd (List.mem_map.2 ⟨p,by simp,rfl⟩) (hro p.1 (hc.1 z (List.mem_append_left _ h)))
    subst hzp
    have ac:sym P ops w0 u0 false ((L++[z]).map (opAt ops)) S u (exitsK P ops w0 u0 K F):=by
     rw[List.map_append];exact sym_app (zwp hK F) _ _ S u (sym_mono_k (fun S u h=>h.2) (zwp hK (z::F)) hs)
    refine front L [] F (by simp[List.append_assoc]) ?_ ?_ (by simp at hl ⊢;omega) ?_ (fun x hx=>hy x (by simpa using hx)) (fun x hx=>hT x (by simp at hx ⊢;rcases hx with h|h<;>simp[h])) (by simpa using ac)
    ·refine hp.sublist ?_;exact List.Sublist.append_left (by simp) _
    ·refine hp.sublist ?_;rw[List.append_nil];exact List.Sublist.append_left (List.sublist_cons_self _ _) _
    rw[List.cons_append] at hc
    simp only[chainB,Bool.and_eq_true] at hc
    exact hc.2
  rcases List.mem_cons.1 hz1 with rfl|hzT
  ·have aa:L=[]:=by
    cases L with
    | nil=>rfl
    | cons x L=>exact absurd (List.mem_map.2 ⟨x,by simp,rfl⟩) (hro x.1 (hy x (List.mem_cons_self ..)))
   subst aa;have h9:=hQ F S u (exitsK_now hs) B a w hr;rw[List.nil_append] at hL hro;have hL':=LeftX.step hL hro
   have hch:∀a' w',wpList P ops Q ((F++T).map fun x=>ops.getD x.1 default) a' w'→wpAny P .any ops Q (fuel+1+T.length) (listed.setIfInBounds z.1 true) a' w':=fun a' w' h=>by
    have:=any_chain (F++T) (listed.setIfInBounds z.1 true) a' w' (hL'.toLeft hc) hc h;rw[List.length_append] at this;rw[show fuel+1+T.length=F.length+T.length from by have h8:F.length=fuel+1:=(by simpa using hl);omega];exact this
   rw[List.map_cons] at h9
   unfold wpList at h9
   have h9:if Region.wanted (opAt ops z).1 (yielded ops a.tmps)=true then(opAt ops z).1.wp P a w (wpList P ops Q ((F++T).map fun x=>ops.getD x.1 default)) Q∨((opAt ops z).1.asks P a w∧LetsOut Q) else wpList P ops Q ((F++T).map fun x=>ops.getD x.1 default) (a.put (opAt ops z).1.dst undef) w:=h9
   simp only[wpOp,key]
   split
   ·rename_i hw
    rw[if_pos hw] at h9;exact h9.imp (Oper.wp_mono fun a w h=>hch a w h) id
   rename_i hw
   rw[if_neg hw] at h9;exact hch _ _ h9
  exact absurd (List.mem_map.2 ⟨y,by simp,rfl⟩) (hro y.1 (hyT z hzT))
end
section
variable {P:Program} {ops:Array Oper} {w0:Base} {u0:World} {S:St} {u:World}
theorem exitsK_both{K:List (Nat×List Tmp)→St→World→Prop}{p:Nat×List Tmp}{F:List (Nat×List Tmp)}(h1:K (p::F) S u)(h2:sym P ops w0 u0 false [opAt ops p] S u (exitsK P ops w0 u0 K F)):exitsK P ops w0 u0 K (p::F) S u:=⟨h1,h2⟩
theorem exitsK_last{K:List (Nat×List Tmp)→St→World→Prop}(h1:K [] S u):exitsK P ops w0 u0 K [] S u:=h1
end
def AnyX(P:Program)(w0:Base)(u0:World)(ops:Array Oper)(listed:Array Bool)(n:Nat)(S:St)(u:World)(Q:MP):Prop:=
 ∀B a w u',Ext u u'→Rep w0 u0 S B a w u'→wpAny P .any ops (fun e a' w'=>∃S' B' u'',Rep w0 u0 S' B' a' w' u''∧Q.f e S' u'') n listed a w
section
variable {P:Program} {ops:Array Oper} {w0:Base} {u0:World} {S:St} {u:World} {Q:MP} {listed:Array Bool}
theorem sw_anyX{id:Nat}(hm:P.follows .mixedOrders=true)(n:Nat)(hn:ops.size=n)(h:AnyX P w0 u0 ops (Array.replicate n false) n S u Q):SW P w0 u0 (.region id ops true) S u Q:=by
 subst hn;intro B a w u' e hr;exact wp_region_any hm (h B a _ u' e hr.drew)
theorem takeX(i d n:Nat)(x:SV)(listed':Array Bool)(k:AnyX P w0 u0 ops listed' n (S.set d x) u Q)(hp:∀c S u,¬Q.f (.panic c) S u:=by intro c S u h;exact h)(hl:listed.setIfInBounds i true=listed':=by kernel_rfl)
  (hs:(Region.noSelect ops&&Region.free .any ops listed i&&(Region.ready .any ops listed).contains i&&Nat.blt i ops.size&&(ops.getD i default).dst==some d&&(ops.getD i default).guard.isNone&&x.at?.isNone&&freeB S d&&knownB S (ops.getD i default))=true:=by kernel_rfl) (hk:opK (ops.getD i default).op≠2:=by decide)
  (hrun:∀B w,(execOp (rho S B) (ops.getD i default)).run P w=.ok (.value (x.conc B)) w:=by intro _ _;kernel_rfl):AnyX P w0 u0 ops listed (n+1) S u Q:=by
 intro B a w u' e hr
 simp only[Bool.and_eq_true,beq_iff_eq,Option.isNone_iff_eq_none] at hs
 obtain⟨⟨⟨⟨⟨⟨⟨⟨h1,h2⟩,h3⟩,h4⟩,h5⟩,h6⟩,h7⟩,h8⟩,h9⟩:=hs;have hi:ops[i]? = some (ops.getD i default):=get_op (Nat.le_of_ble_eq_true h4);subst hl;refine wpAny_take (v:=x.conc B) hi h1 h2 h3 (fun c a w h=>?_) (.inl ⟨zwf (S:=S) h6 B a hr.regs,fun w=>by rw[exec_rho hr.regs h9 hk];exact hrun B w⟩) ?_
 ·obtain⟨S',B',u'',_,g⟩:=h;exact absurd g (hp c S' u'')
 refine k B _ w u' e ?_;rw[h5];exact hr.set (d:=some d) (x:=some x) (v:=x.conc B) (fun s hs=>(zxx h5 h8 s (by rw[h5];exact hs)).1) (fun z e=>by injection e with e;rw[←e]) (fun z t e ht=>by injection e with e;rw[←e,h7] at ht;cases ht)
def leftB(ops:Array Oper)(M:List Nat)(L:List (Nat×List Tmp))(listed:Array Bool):Bool:=
 nodupB (L.map (·.1))&&backB ops L&&listed.size==ops.size&&(List.range ops.size).all (fun i=>(listed.getD i true==false)==(L.map (·.1)).contains i) &&
  L.all (fun x=>Nat.blt x.1 ops.size && !((ops.getD x.1 default).after.toList.any fun e=>Region.binds .any e&&(e.on==x.1||Nat.ble ops.size e.on))&&(M.getD x.1 0==reachOf M (ops.getD x.1 default))) &&
  (List.range ops.size).all (fun j=>(L.map (·.1)).contains j||(L.map (·.1)).all fun x => !(M.getD j 0).testBit x)
theorem leftB_spec{M:List Nat}{L:List (Nat×List Tmp)}(h:leftB ops M L listed=true):LeftX ops M L listed:=by
 simp only[leftB,Bool.and_eq_true,beq_iff_eq,List.all_eq_true,List.mem_range] at h
 obtain⟨⟨⟨⟨⟨h1,h2⟩,h3⟩,h4⟩,h5⟩,h6⟩:=h;refine⟨nodupB_spec h1,backB_spec h2,h3,fun i hi=>?_,fun x hx=>?_,fun x hx=>(h5 x hx).2,fun j hj hjn x hx hm=>?_⟩
 ·have:=h4 i hi
  constructor
  ·intro h;rw[h] at this;exact List.contains_iff_mem.1 (by simpa using this.symm)
  intro h;rw[List.contains_iff_mem.2 h] at this
  simpa using this
 ·obtain⟨⟨k1,k2⟩,_⟩:=h5 x hx;refine⟨Nat.le_of_ble_eq_true k1,fun e he hb=>?_⟩
  simp only[Bool.not_eq_true',List.any_eq_false] at k2
  have:=k2 e (by simpa using he)
  simp[hb] at this
  exact this
 have:=h6 j hj;rw[Bool.or_eq_true] at this
 rcases this with h9|h9
 ·exact hjn (List.contains_iff_mem.1 h9)
 have:=List.all_eq_true.1 h9 x hm;rw[hx] at this;cases this
theorem restX(M:List Nat)(L F:List (Nat×List Tmp))(y:Nat×List Tmp)(T:List (Nat×List Tmp)){n:Nat}
  (hok:(leftB ops M (L++F++y::T) listed&&pairsOk ops M (L++F)&&chainB M (F++T)&&L.all (fun x=>(M.getD y.1 0).testBit x.1)&&(L++F).all (fun x=>T.all fun t=>(M.getD t.1 0).testBit x.1)&&T.all (fun t=>(M.getD t.1 0).testBit y.1)&&Nat.beq n ((L.length+F.length)+1+T.length))=true)
  (h:sym P ops w0 u0 false (L.map (opAt ops)) S u (exitsK P ops w0 u0 (fun F S' u'=>sym P ops w0 u0 true ((y::(F++T)).map fun x=>(ops.getD x.1 default,[])) S' u' (Q.f .normal)) F)):AnyX P w0 u0 ops listed n S u Q:=by
 intro B a w u' e hr
 simp only[Bool.and_eq_true,List.all_eq_true] at hok
 obtain⟨⟨⟨⟨⟨⟨g0,g1⟩,g2⟩,g3⟩,g4⟩,g5⟩,g6⟩:=hok;have hK:∀F,Mono (fun S' u'=>sym P ops w0 u0 true ((y::(F++T)).map fun x=>(ops.getD x.1 default,([]:List Tmp))) S' u' (Q.f .normal)):=fun F=>zwc (Q.mono _);rw[Nat.eq_of_beq_eq_true g6];refine any_symE hK (fun F S u'' h B a w hr=>?_) g5 (L.length+F.length) L F _ S B a _ u' rfl g2 (pairsOk_spec g1) (leftB_spec g0) g3 (fun x hx=>g4 x hx) hr (zwc (zwp hK F) _ _ _ e h);have:=sl_key (Q:=fun e a' w'=>∃S' B' u'',Rep w0 u0 S' B' a' w' u''∧Q.f e S' u'') (K:=Q.f .normal) (Q.mono _) [] (fun S u h B a w hr=>by exact⟨S,B,u,hr,h⟩) ((y::(F++T)).map fun x=>ops.getD x.1 default) S B a w u'' hr (by rw[List.map_map];exact h);rw[List.append_nil] at this;exact this
end
instance wdDec(W:WL):Decidable (WdOK W):=by unfold WdOK;exact inferInstance
namespace Nt
section
variable {α:Type}
def swL(l:List α)(t f:Nat)(z:α):List α:=(l.set t (l.getD f z)).set f (l.getD t z)
theorem swL_len{l:List α}{t f:Nat}{z:α}:(swL l t f z).length=l.length:=by unfold swL;rw[List.length_set,List.length_set]
theorem swL_at{l:List α}{t f i:Nat}{z:α}(ht:t<l.length)(hf:f<l.length):(swL l t f z).getD i z=if i=t then l.getD f z else if i=f then l.getD t z else l.getD i z:=by
 unfold swL
 have hg:∀{l:List α} {i j:Nat} {a:α},i≠j→(l.set i a).getD j z=l.getD j z:=fun h=>by simp[h]
 have hs:∀{l:List α} {i:Nat} {a:α},i<l.length→(l.set i a).getD i z=a:=fun h=>by simp[h]
 by_cases h1:f=i
 ·subst h1;rw[hs (by rw[List.length_set];exact hf)]
  by_cases h2:f=t
  ·subst h2;rw[if_pos rfl]
  rw[if_neg h2,if_pos rfl]
 rw[hg h1]
 by_cases h2:t=i
 ·subst h2;rw[hs ht,if_pos rfl]
 rw[hg h2,if_neg (Ne.symm h2),if_neg (Ne.symm h1)]
end
def rowA(a b:List Rat)(f:Rat):List Rat:=(List.range a.length).map fun j=>a.getD j 0+f*b.getD j 0
def negR(a:List Rat):List Rat:=(List.range a.length).map fun j => -(a.getD j 0)
def cmb(s:List Int)(M:List (List Rat)):List (List Rat):=
 if s.getD 3 0=-1 then swL M (s.getD 0 0).toNat (s.getD 1 0).toNat []
 else if s.getD 3 0=-2 then M.set (s.getD 0 0).toNat (negR (M.getD (s.getD 0 0).toNat []))
 else M.set (s.getD 0 0).toNat (rowA (M.getD (s.getD 0 0).toNat []) (M.getD (s.getD 1 0).toNat []) (wq (s.getD 2 0) (s.getD 3 0)))
def idRow(n i:Nat):List Rat:=(List.range n).map fun j=>if i=j then 1 else 0
def idR(n:Nat):List (List Rat):=(List.range n).map fun i=>idRow n i
def linM(n:Nat)(S:List (List Int)):List (List Rat):=S.foldl (fun M s=>cmb s M) (idR n)
def Sq(n:Nat)(M:List (List Rat)):Prop:=M.length=n∧∀i,i<n→(M.getD i []).length=n
def ent(M:List (List Rat))(i j:Nat):Rat:=(M.getD i []).getD j 0
section
variable {M:List (List Rat)} {a b l:List Rat} {s:List Int} {S:List (List Int)} {n t f i j D A:Nat} {cf sh:Int} {q:Rat}
theorem mapR_at{g:Nat→Rat}(h:j<n):((List.range n).map g).getD j 0=g j:=by
 rw[qyg,List.getElem?_map,List.getElem?_range h];rfl
theorem mapR_out{g:Nat→Rat}(h:n≤j):((List.range n).map g).getD j 0=0:=by
 rw[qyg,List.getElem?_eq_none yw];rfl
theorem mapL_at{g:Nat→List Rat}(h:j<n):((List.range n).map g).getD j []=g j:=by
 rw[qyg,List.getElem?_map,List.getElem?_range h];rfl
theorem rowA_len:(rowA a b q).length=a.length:=by unfold rowA;simp
theorem negR_len:(negR a).length=a.length:=by unfold negR;simp
theorem idRow_len:(idRow n i).length=n:=by unfold idRow;simp
theorem idR_len:(idR n).length=n:=by unfold idR;simp
theorem rowA_at(h:j<a.length):(rowA a b q).getD j 0=a.getD j 0+q*b.getD j 0:=mapR_at h
theorem negR_at(h:j<a.length):(negR a).getD j 0=-(a.getD j 0):=mapR_at h
theorem idRow_at(h:j<n):(idRow n i).getD j 0=if i=j then 1 else 0:=mapR_at h
theorem idR_at(h:i<n):(idR n).getD i []=idRow n i:=mapL_at h
theorem cmb_x(h:sh=-1):cmb [(t:Int),(f:Int),cf,sh] M=swL M t f []:=by subst h;rfl
theorem cmb_n(h:sh=-2):cmb [(t:Int),(f:Int),cf,sh] M=M.set t (negR (M.getD t [])):=by subst h;rfl
theorem cmb_s(h1:¬sh=-1)(h2:¬sh=-2):cmb [(t:Int),(f:Int),cf,sh] M=M.set t (rowA (M.getD t []) (M.getD f []) (wq cf sh)):=by
 unfold cmb
 rw[if_neg (show ¬ [(t:Int),(f:Int),cf,sh].getD 3 0=-1 from h1),if_neg (show ¬ [(t:Int),(f:Int),cf,sh].getD 3 0=-2 from h2)]
 rfl
theorem getD_setL{x y:List Rat}:(M.set t x).getD i []=if t=i∧t<M.length then x else M.getD i []:=by
 by_cases h:t=i
 ·subst h
  by_cases h2:t<M.length
  ·rw[if_pos ⟨rfl,h2⟩];simp[h2]
  rw[if_neg (fun h=>h2 h.2),List.set_eq_of_length_le xq]
 rw[if_neg (fun h9=>h h9.1)];simp[h]
theorem linM_nil:linM n []=idR n:=rfl
theorem linM_snoc(i:Nat)(hi:i<S.length):linM n (S.take (i+1))=cmb (S.getD i []) (linM n (S.take i)):=by
 unfold linM
 rw[List.take_succ_eq_append_getElem hi,List.foldl_append,qyg,List.getElem?_eq_getElem hi]
 rfl
theorem idR_sq:Sq n (idR n):=⟨idR_len,fun i hi=>by rw[idR_at hi];exact idRow_len⟩
theorem Sq.set(h:Sq n M)(hl:l.length=n):Sq n (M.set t l):=⟨by rw[List.length_set];exact h.1,fun i hi=>by
 rw[getD_setL (y:=[])]
 split
 ·exact hl
 exact h.2 i hi⟩
theorem Sq.swap(h:Sq n M)(ht:t<n)(hf:f<n):Sq n (swL M t f []):=⟨by rw[swL_len];exact h.1,fun i hi=>by
 rw[swL_at (by rw[h.1];exact ht) (by rw[h.1];exact hf)]
 split
 ·exact h.2 f hf
 split
 ·exact h.2 t ht
 exact h.2 i hi⟩
theorem shOK_four(h:shOK (n:Int) s)(h4:s.length=4):∃(t f:Nat) (cf sh:Int),s=[(t:Int),(f:Int),cf,sh]∧t<n∧f<n∧-2≤sh∧sh≤20∧-2097152≤cf∧cf≤2097152∧(t=f↔sh=-2)∧(sh<0→cf=0):=by
 have e:=row_eq4 h4;have h1:0≤s.getD 0 0:=h.1;have h2:0≤s.getD 1 0:=h.2.2.1;refine⟨(s.getD 0 0).toNat,(s.getD 1 0).toNat,s.getD 2 0,s.getD 3 0,?_,?_⟩
 ·rw[Int.toNat_of_nonneg h1,Int.toNat_of_nonneg h2];exact e
 rw[e] at h;rw[←Int.toNat_of_nonneg h1,←Int.toNat_of_nonneg h2] at h;obtain⟨k1,k2,k3,k4,k5,k6,k7,k8⟩:=shOK_mk h;exact⟨by omega,by omega,k3,k4,k5,k6,⟨fun h9=>k7.1 (by rw[h9]),fun h9=>Int.ofNat_inj.1 (k7.2 h9)⟩,k8⟩
theorem cmb_sq(h:Sq n M)(ht:t<n)(hf:f<n):Sq n (cmb [(t:Int),(f:Int),cf,sh] M):=by
 by_cases h1:sh=-1
 ·rw[cmb_x h1];exact h.swap ht hf
 by_cases h2:sh=-2
 ·rw[cmb_n h2];exact h.set (by rw[negR_len];exact h.2 t ht)
 rw[cmb_s h1 h2];exact h.set (by rw[rowA_len];exact h.2 t ht)
def Mw(M:List (List Rat))(D A:Nat):Prop:=0<D∧∀i j,Wh (ent M i j*((D:Int):Rat)) A
theorem wh_p20(z:Nat)(h:z≤20):Wh (((((2:Nat)^z:Nat):Int):Rat)) 20:=⟨(((2:Nat)^z:Nat):Int),rfl,by
 rw[Int.natAbs_natCast];exact Nat.pow_le_pow_right xw h⟩
theorem Wh.zero'{x:Rat}(h:x=0)(A:Nat):Wh x A:=by rw[h];exact Wh.zero A
theorem Wh.scale{x:Rat}(h:Wh (x*((D:Int):Rat)) A):Wh (x*(((D*2^20:Nat):Int):Rat)) (A+20):=by
 have e:(((D*2^20:Nat):Int):Rat)=((D:Int):Rat)*(((2^20:Nat):Int):Rat):=by rw[←Rat.intCast_mul];simp
 rw[e,←Rat.mul_assoc];exact h.mul (wh_p20 20 xw)
theorem wq_20(h0:0≤sh)(h1:sh≤20):wq cf sh*(((2^20:Nat):Int):Rat)=((cf:Int):Rat)*(((2^(20-sh.toNat):Nat):Int):Rat):=by
 obtain⟨k,rfl⟩:=Int.eq_ofNat_of_zero_le h0;have hk:k≤20:=by omega
 have e:(((2^20:Nat):Int):Rat)=((p2i (k:Int):Int):Rat)*(((2^(20-k):Nat):Int):Rat):=by
  rw[←Rat.intCast_mul];congr 1
  unfold p2i
  rw[Int.toNat_natCast];have e2:(2:Int)^k=((2^k:Nat):Int):=by simp
  rw[e2,←Int.natCast_mul,←Nat.pow_add];congr 2;omega
 have hp:((p2i (k:Int):Int):Rat)≠0:=fun e=>by
  have h1:=Rat.intCast_inj.1 (show((p2i (k:Int):Int):Rat)=((0:Int):Rat) from e);have:=zxo (k:Int);omega
 rw[e,show(k:Int).toNat=k from rfl]
 unfold wq
 generalize ((p2i (k:Int):Int):Rat)=P at *;generalize (((2^(20-k):Nat):Int):Rat)=Q at *;rw[Rat.div_def]
 grind
theorem Wh.shear{x:Rat}(h:Wh (x*((D:Int):Rat)) A)(h0:0≤sh)(h1:sh≤20)(h2:cf.natAbs≤2^21):Wh (wq cf sh*x*(((D*2^20:Nat):Int):Rat)) (A+41):=by
 have e:(((D*2^20:Nat):Int):Rat)=((D:Int):Rat)*(((2^20:Nat):Int):Rat):=by rw[←Rat.intCast_mul];simp
 have e2:wq cf sh*x*(((D*2^20:Nat):Int):Rat)=x*((D:Int):Rat)*(((cf:Int):Rat)*(((2^(20-sh.toNat):Nat):Int):Rat)):=by
  rw[e,←wq_20 h0 h1];grind
 rw[e2];exact h.mul (Wh.mul (A:=21) (B:=20) ⟨cf,rfl,h2⟩ (wh_p20 _ xq))
theorem ent_set:ent (M.set t l) i j=if t=i∧t<M.length then l.getD j 0 else ent M i j:=by
 unfold ent;rw[getD_setL (y:=[])];split<;>rfl
theorem Mw.cmb(h:Mw M D A)(hq:Sq n M)(ht:t<n)(hf:f<n)(h1:-2≤sh)(h2:sh≤20)(h3:-2097152≤cf∧cf≤2097152):Mw (cmb [(t:Int),(f:Int),cf,sh] M) (D*2^20) (A+42):=by
 refine⟨Nat.mul_pos h.1 xw,fun i j=>?_⟩
 by_cases g1:sh=-1
 ·rw[cmb_x g1]
  have e:∃i',ent (swL M t f []) i j=ent M i' j:=by
   unfold ent
   rw[swL_at (by rw[hq.1];exact ht) (by rw[hq.1];exact hf)]
   split
   ·exact⟨f,rfl⟩
   split
   ·exact⟨t,rfl⟩
   exact⟨i,rfl⟩
  obtain⟨i',e⟩:=e;rw[e];exact(h.2 i' j).scale.more xq
 by_cases g2:sh=-2
 ·rw[cmb_n g2,ent_set]
  split
  ·rcases Nat.lt_or_ge j (M.getD t []).length with hj|hj
   ·rw[negR_at hj];have h9:=(Wh.zero (A+20)).sub (h.2 t j).scale;have e:-(M.getD t []).getD j 0*(((D*2^20:Nat):Int):Rat)=0-ent M t j*(((D*2^20:Nat):Int):Rat):=by unfold ent;grind
    rw[e];exact h9.more xq
   rw[show(negR (M.getD t [])).getD j 0=0 by unfold negR;exact mapR_out hj];exact Wh.zero' (Rat.zero_mul _) _
  exact(h.2 i j).scale.more xq
 rw[cmb_s g1 g2,ent_set]
 split
 ·rcases Nat.lt_or_ge j (M.getD t []).length with hj|hj
  ·rw[rowA_at hj,Rat.add_mul];exact((h.2 t j).scale.more xq).add ((h.2 f j).shear (sh:=sh) (cf:=cf) xq h2 xq)
  rw[show(rowA (M.getD t []) (M.getD f []) (wq cf sh)).getD j 0=0 by unfold rowA;exact mapR_out hj];exact Wh.zero' (Rat.zero_mul _) _
 exact(h.2 i j).scale.more xq
theorem idR_mw:Mw (idR n) 1 1:=⟨by decide,fun i j=>by
 rw[show(((1:Nat):Int):Rat)=1 from rfl,Rat.mul_one]
 unfold ent
 rcases Nat.lt_or_ge i n with hi|hi
 ·rw[idR_at hi]
  rcases Nat.lt_or_ge j n with hj|hj
  ·rw[idRow_at hj];split
   ·exact Wh.one _
   exact Wh.zero _
  rw[show(idRow n i).getD j 0=0 by unfold idRow;exact mapR_out hj];exact Wh.zero _
 rw[show(idR n).getD i []=[] by rw[qyg,List.getElem?_eq_none (by rw[idR_len];exact hi)];rfl];exact Wh.zero _⟩
theorem linM_ok(hV:∀i,i<S.length→shOK (n:Int) (S.getD i []))(h4:Rows 4 S):∀i,i≤S.length→Sq n (linM n (S.take i))∧Mw (linM n (S.take i)) (2^(20*i)) (42*i+1):=by
 intro i
 induction i with
 | zero=>intro _;rw[List.take_zero];exact⟨idR_sq,idR_mw⟩
 | succ i ih=>
  intro hi;obtain⟨h1,h2⟩:=ih xq;obtain⟨t,f,cf,sh,e,k1,k2,k3,k4,k5,k6,_⟩:=shOK_four (hV i xq) (h4.get xq);rw[linM_snoc i xq,e];refine⟨cmb_sq h1 k1 k2,?_⟩;have h9:=h2.cmb h1 k1 k2 k3 k4 ⟨k5,k6⟩;rw[←Nat.pow_add] at h9
  rwa [show 20*(i+1)=20*i+20 by omega,show 42*(i+1)+1=42*i+1+42 by omega]
theorem Mw.rs(h:Mw M D A)(hD:D≤2^A)(i j:Nat):rs (ent M i j)≤dg A:=wh_rs h.1 (h.2 i j) hD
theorem linM_rs(hV:∀i,i<S.length→shOK (n:Int) (S.getD i []))(h4:Rows 4 S)(h64:S.length≤64)(k:Nat)(hk:k≤S.length):∀i j,rs (ent (linM n (S.take k)) i j)≤100:=fun i j=>by
 have h9:=(linM_ok hV h4 k hk).2.rs (Nat.pow_le_pow_right xw xq) i j;have:dg (42*k+1)≤100:=by unfold dg;omega
 omega
def mixR(M:List (List Rat))(t:Nat)(R:List Rat)(j:Nat):List (List Rat):=M.set t (R.take j++(M.getD t []).drop j)
theorem mixR_0{R:List Rat}:mixR M t R 0=M:=by
 unfold mixR
 rw[List.take_zero,List.nil_append,List.drop_zero];refine List.ext_getElem? fun k=>?_;rw[List.getElem?_set]
 split
 ·rename_i e;subst e
  split
  ·rename_i h;simp[h]
  rename_i h;rw[List.getElem?_eq_none xq]
 rfl
theorem mixR_n{R:List Rat}(h:R.length=(M.getD t []).length)(hj:j=R.length):mixR M t R j=M.set t R:=by
 unfold mixR
 rw[hj,List.take_length,h,List.drop_length,List.append_nil]
theorem mixR_len{R:List Rat}:(mixR M t R j).length=M.length:=by unfold mixR;rw[List.length_set]
theorem mixR_old{R:List Rat}(ht:t<M.length)(hR:R.length=(M.getD t []).length)(hj:j<R.length):((mixR M t R j).getD t []).getD j 0=(M.getD t []).getD j 0:=by
 unfold mixR
 rw[getD_setL (y:=[]),if_pos ⟨rfl,ht⟩,qyg,List.getElem?_append_right (by rw[List.length_take];omega),List.length_take,Nat.min_eq_left xq,Nat.sub_self,List.getElem?_drop,Nat.add_zero,qyg (l:=M.getD t [])]
theorem mixR_other{R:List Rat}(h:t≠i):(mixR M t R j).getD i []=M.getD i []:=by
 unfold mixR;rw[getD_setL (y:=[]),if_neg (fun h9=>h h9.1)]
theorem mixR_row{R:List Rat}(ht:t<M.length)(hR:R.length=(M.getD t []).length)(hj:j≤R.length):((mixR M t R j).getD t []).length=R.length:=by
 unfold mixR
 rw[getD_setL (y:=[]),if_pos ⟨rfl,ht⟩,List.length_append,List.length_take,List.length_drop];omega
theorem mixR_s{R:List Rat}(ht:t<M.length)(hR:R.length=(M.getD t []).length)(hj:j<R.length):(mixR M t R j).set t (((mixR M t R j).getD t []).set j (R.getD j 0))=mixR M t R (j+1):=by
 unfold mixR
 rw[List.set_set,getD_setL (y:=[]),if_pos ⟨rfl,ht⟩]
 congr 1
 rw[List.set_append_right j _ (by rw[List.length_take];omega),List.length_take,Nat.min_eq_left xq,Nat.sub_self,List.take_succ_eq_append_getElem hj,List.append_assoc]
 congr 1
 have e9:R.getD j 0=R[j]:=by rw[qyg,List.getElem?_eq_getElem hj];rfl
 rw[List.drop_eq_getElem_cons (show j<(M.getD t []).length by omega),List.set_cons_zero,e9];rfl
end
def mxQ(a b:Rat):Rat:=if a<b then b else a
def dsL(a x y:Rat):Rat:=absQ (lo (lo a a) (hi a a)-hi x y)
def dsH(a x y:Rat):Rat:=absQ (hi (lo a a) (hi a a)-lo x y)
noncomputable section
def dsR(n b:Nat)(S:List (List Int))(i:Nat)(m:Rat):Nat→Rat
 | 0=>m
 | j+1=>mxQ (dsR n b S i m j) (mxQ (dsL (((linM n S).getD i []).getD j 0) (dmE n b i j).1 (dmE n b i j).2) (dsH (((linM n S).getD i []).getD j 0) (dmE n b i j).1 (dmE n b i j).2))
def dsA(n b:Nat)(S:List (List Int)):Nat→Rat
 | 0=>((0:Int):Rat)
 | i+1=>dsR n b S i (dsA n b S i) n
def cosL(n k:Nat):List (List Int):=if n=2 then roL 0 1 1 4 k else if n=4 then roL 0 3 1 4 k++roL 1 2 1 4 k++roL 0 1 1 4 k++roL 3 2 1 8 k++[[1,3,0,(-1)],[2,3,0,(-1)]] else []
end
theorem mx_t{m x:Rat}(h:m<x):mxQ m x=x:=if_pos h
theorem mx_f{m x:Rat}(h:¬m<x):mxQ m x=m:=if_neg h
theorem mx_as(m x y:Rat):mxQ (mxQ m x) y=mxQ m (mxQ x y):=by unfold mxQ;(repeat' split)<;>grind
theorem shOK_m4{n t f cf sh:Int}(h1:0≤t∧t<n)(h2:0≤f∧f<n)(h3:-2≤sh∧sh≤20)(h4:t=f↔sh=-2)(h5:sh<0→cf=0)(h6:-2097152≤cf∧cf≤2097152):shOK n [t,f,cf,sh]:=
 ⟨h1.1,h1.2,h2.1,h2.2,h3.1,h3.2,h4,h5,h6.1,h6.2⟩
theorem roL_ok{n i j p q k:Nat}(hO:RotOK p q k)(hi:i<n)(hj:j<n)(hij:i≠j)(hk1:1≤k)(hk2:k≤20):∀s∈roL i j p q k,shOK (n:Int) s:=fun s hs=>by
 have t0:=hO.t0;have t1:=hO.t1;have s0:=hO.s0;have s1:=hO.s1
 simp only[roL,List.mem_cons,List.mem_nil_iff,or_false] at hs
 rcases hs with rfl|rfl|rfl|rfl
 ·exact shOK_m4 xq xq xq xq xq xq
 ·exact shOK_m4 xq xq xq xq xq xq
 ·exact shOK_m4 xq xq xq xq xq xq
 exact shOK_m4 xq xq xq xq xq xq
theorem cosL_len(n k:Nat):(cosL n k).length≤18:=by unfold cosL;split;(simp[roL]);split;(simp[roL]);simp
theorem cosL_ok{n k:Nat}(hn:n=1∨n=2∨n=4)(hk1:1≤k)(hk2:k≤20):shV (n:Int) (cosL n k):=by
 have h4:=rotOK (p:=1) (q:=4) (k:=k) xw xw xw hk2;have h8:=rotOK (p:=1) (q:=8) (k:=k) xw xw xw hk2;have hl:=cosL_len n k;refine⟨by omega,by omega,by omega,fun i hi=>?_⟩;have hm:(cosL n k).getD i []∈cosL n k:=by rw[qyg,List.getElem?_eq_getElem hi];exact List.getElem_mem hi
 generalize (cosL n k).getD i []=s at hm
 rcases hn with rfl|rfl|rfl
 ·exact absurd hm (by unfold cosL;simp)
 ·exact roL_ok h4 xw xw xw hk1 hk2 s hm
 have hm':s∈roL 0 3 1 4 k++roL 1 2 1 4 k++roL 0 1 1 4 k++roL 3 2 1 8 k++[[1,3,0,(-1)],[2,3,0,(-1)]]:=hm
 simp only[List.mem_append,List.mem_cons,List.mem_nil_iff,or_false] at hm'
 rcases hm' with (((h|h)|h)|h)|h
 ·exact roL_ok h4 xw xw xw hk1 hk2 s h
 ·exact roL_ok h4 xw xw xw hk1 hk2 s h
 ·exact roL_ok h4 xw xw xw hk1 hk2 s h
 ·exact roL_ok h8 xw xw xw hk1 hk2 s h
 rcases h with rfl|rfl
 ·exact shOK_m4 xq xq xq xq xq xq
 exact shOK_m4 xq xq xq xq xq xq
end Nt
end Go.Proofs.YtcpnfblekhgmgaaGreat
