/- Parts of the proof: contracts of functions, each walked once, and plain laws. -/
import Derived.Test.YtcpnfblekhgmgaaGreatDcoH
set_option linter.unusedVariables false
set_option maxHeartbeats 8000000
namespace Go.Proofs.YtcpnfblekhgmgaaGreat
open Nt
open Go.RowKit
theorem k_ratNearest{u w:World}{r:RL}{q:Rat}{K k:Nat}(hk:k≤256)(d:Dat u w)(hr:RatV u r q K)(hK:K≤1000000):qyc 51 #[r.v,.int .i64 (k:Int)] w (Post u w fun v u'=>∃p:RL,v=.tuple #[p.v,.int .i64 0]∧RatN u' p (Nt.gr k (nrZ q k)) (K+30)):=by
 refine zzl Tryz.func51 rfl Tryz.ntmps51 Tryz.results51 d ?_;refine sq9 (zzj 2 ⟨35,r.cs⟩ (zzj 4 ⟨35,zw3⟩ (zza 5 (zI 0) (zzb (zzd (sq9 (zza 8 (zI k) (zza 9 (zB (decide ((k:Int)<0))) (zqB 10 (show(decide ((k:Int)<0))=false from decide_eq_false xq) (zza 11 (zI k) ?_ (hw:=w1 2 false 10)))))))))));refine zza 12 (zB (decide ((256:Int)<(k:Int)))) ?_ (hw:=w1 2 false 10);refine zza 13 (zB (decide ((256:Int)<(k:Int)))) (zzb (zzt (b:=decide ((256:Int)<(k:Int))) xj (fun hb=>?_) (fun hb=>?_)))
 ·exact absurd hb (by rw[show(decide ((256:Int)<(k:Int)))=false from decide_eq_false xq];decide)
 clear hb;refine zzr (zzo ?_);refine sq9 (zzh 15 (.v (r.v)) ty35 zze (zzg 16 103 _ fun _ _ aF aD=>qym (k_read aD (hr.ext aF)) ?_));rintro _ u14 g15 ⟨aa,ah,rfl,z13,D13,ae,ab,ac,ag,az,aA⟩;refine zzj 6 ⟨124,[.bool false,qyn,qyn,.bool false]⟩ (zzi ⟨124,aa.cs++[.bool ah]⟩ ty124 ?_);refine zzb (zzd (zzy [0,1,3,0,8,31,0,64,192,511,1023,0,4095] [(0,[]),(1,[]),(2,[]),(3,[]),(4,[]),(6,[]),(7,[]),(8,[]),(11,[]),(5,[]),(9,[]),(10,[]),(12,[])] xj xj (zza 17 (.adr 6 0) (zza 18 (.adr 6 0) (zzh 19 (.v (.agg #[.bool aa.s,aa.m.v])) ty33 zze (zza 20 (zI k) (qwi 21 ((k:Int)+1) (k+1:Nat) xk (zza 23 (.adr 6 0) (zza 24 (.adr 6 2) (zzh 25 (.v (aa.d.v)) ty31 zzk (zzj 7 ⟨33,[.bool false,qyn]⟩ ?_)))))))))));refine zzg 22 113 _ fun _ _ ai ar=>qym (k_double (s:=k+1) ar (ae.ext ai) xq xq) ?_;rintro _ u20 am ⟨y18,rfl,aq⟩;refine zzg 26 106 _ fun _ _ af aw=>qym (k_natural (x:=aa.d) aw) ?_;rintro _ u24 aj rfl;refine zzg 27 112 _ fun _ _ ak ax=>qym (k_intAdd ax (aq.ext xe) (nat_int (ab.ext xe)) xq xq) ?_;rintro _ u30 av ⟨an,rfl,aB⟩;refine zzi ⟨33,an.cs⟩ ty33 ?_;refine zzb (zzd (zzy [0,0,2,6,14,0,63,127,255] [(0,[]),(1,[]),(2,[]),(3,[]),(5,[]),(4,[]),(6,[]),(7,[]),(8,[])] xj xj (zzh 28 (.v (an.v)) ty33 zze (zza 29 (.adr 6 0) (zza 30 (.adr 6 2) (zzh 31 (.v (aa.d.v)) ty31 zzk (zza 33 (zI k) (zzg 32 115 _ fun _ _ al aH=>qym (k_natShift (s:=1) aH (ab.ext xe) xq xq) ?_))))))));rintro _ u36 ap ⟨x34,rfl,au⟩;refine zzg 34 114 _ fun _ _ ao aG=>qym (k_onGrid (s:=k) aG (aB.ext xe).raw (au.ext ao).raw (Nat.mul_pos ac xw) xq xq xq) ?_;rintro _ u42 g43 ⟨ad,rfl,aE⟩;refine zzi ⟨35,ad.cs⟩ ty35 ?_;refine zza 5 (zI 0) (zzc 35 [(4,.adr 4 0),(5,zI 0)] [(4,⟨35,ad.cs⟩)] (zzn (ret0 [ad.v,.int .i64 0] ⟨zzq ty35 zze,zzp,trivial⟩ fun u45 ay=>?_)));refine⟨ad,rfl,RatN.more (K:=((max (K+(k+1)/32+1) K+1)+k/32+3)) ?_ xq⟩;have h9:=(aE.ext ay)
 rw[ag,←nr_mk ac];exact h9
theorem k_pfloor{u w:World}{r:RL}{q:Rat}{K:Nat}(d:Dat u w)(hr:RatV u r q K)(hK:K≤1000000):qyc 119 #[r.v] w (Post u w fun v u'=>∃i:IL,v=i.v∧IntN u' i (flr q) (K+1)):=by
 refine zzl Tryz.func119 rfl Tryz.ntmps119 Tryz.results119 d ?_;refine sq9 (zzj 1 ⟨35,r.cs⟩ (zzj 2 ⟨33,[.bool false,qyn]⟩ (zzb (sq9 (zzh 7 (.v (r.v)) ty35 zze (zzg 8 103 _ fun _ _ am au=>qym (k_read au (hr.ext am)) ?_))))));rintro _ u13 g14 ⟨ac,ag,rfl,z12,D12,ae,ah,ab,ad,ar,an⟩;refine zzj 3 ⟨124,[.bool false,qyn,qyn,.bool false]⟩ (zzi ⟨124,ac.cs++[.bool ag]⟩ ty124 ?_);refine zzb (zzd (zzy [0,1,3,0,8,24,56,127,255,511,511,511,0,0,13311,30719,65535] [(0,[]),(1,[]),(2,[]),(3,[]),(4,[]),(5,[]),(12,[]),(13,[]),(6,[]),(7,[]),(8,[]),(9,[]),(10,[]),(11,[]),(14,[]),(15,[]),(16,[])] xj xj (zza 10 (.adr 3 0) (zza 11 (.adr 3 0) (zzh 12 (.v (.agg #[.bool ac.s,ac.m.v])) ty33 zze (zza 13 (.adr 3 0) (zza 14 (.adr 3 2) (zzh 15 (.v (ac.d.v)) ty31 zzk (zzj 4 ⟨33,[.bool false,qyn]⟩ (zzj 5 ⟨33,[.bool false,qyn]⟩ (zzg 16 106 _ fun _ _ ai aq=>qym (k_natural (x:=ac.d) aq) ?_)))))))))));rintro _ u17 aj rfl;refine zzg 17 150 _ fun _ _ ak ao=>qym (k_intDivP ao (ae.ext xe) (ah.ext xe) ab xq xq) ?_;rintro _ u25 g26 ⟨aa,af,rfl,ap,h24⟩;refine zza 9 (.v (.tuple #[aa.v,af.v,.int .i64 0])) (zza 18 (.v (aa.v)) (zza 19 (.v (af.v)) (zza 20 (zI 0) (zzi ⟨33,aa.cs⟩ ty33 ?_))));refine zzi ⟨33,af.cs⟩ ty33 ?_;refine zza 6 (zI 0) (zzb (sq9 (zzh 21 (.v (aa.v)) ty33 zze (zzi ⟨33,aa.cs⟩ ty33 ?_))));refine zzb (zzn (ret0 [aa.v] ⟨zzq ty33 zze,trivial⟩ fun u28 al=>?_));refine⟨aa,rfl,IntN.more (K:=(K+1)) ?_ xq⟩;rw[ad,flr_mk ab];exact(ap.ext al)
theorem k_fxNearest{u w:World}{r:RL}{W:WL}{z:Int}{K k:Nat}(d:Dat u w)(hW:WdOK W)(hr2:W.r=2)(hf:W.f=(k:Int))(hr:RatV u r (Nt.gr k z) K)(hz0:-p2i (W.b-1)≤z)(hz1:z<p2i (W.b-1))(hK:K≤100000):qyc 53 #[W.v,r.v] w (Post u w fun v _=>v=.tuple #[.int .i64 z,.bool true]):=by
 obtain⟨w1,w2,w3,w4,w5,w6,w7,w8⟩:=id hW;have ao:p2i W.f=((2^k:Nat):Int):=by rw[hf];unfold p2i;simp
 have hp3:=p2i_24 (n:=W.b-1) xq;have hp4:=p2i_24 (n:=W.f) xq;have hp5:=zxo W.f;have hp6:=zxo (W.b-1);refine zzl Tryz.func53 rfl Tryz.ntmps53 Tryz.results53 d ?_;refine sq9 (zzj 2 ⟨87,W.cs⟩ (zzj 3 ⟨35,r.cs⟩ (zza 4 (zI 0) (zza 5 (zB false) (zzb (zzd (sq9 (zzh 9 (.v (W.v)) ty87 zze (zzg 10 118 _ fun _ _ am aI=>qym (k_fxValid (W:=W) aI hW) ?_)))))))));rintro _ u12 aw rfl;refine zza 11 (zB false) (zzb (zyr xj (zzr (zzo ?_))));refine zzd (zzy [0,0,2,6,14,31,0,127] [(0,[]),(1,[]),(2,[]),(3,[]),(6,[]),(4,[]),(5,[]),(7,[])] xj xj (zzh 12 (.v (r.v)) ty35 zze (zza 13 (.adr 2 1) (zzh 14 (zI W.f) ty3 zzk (sy_shl 15 (k:=.i64) (s:=W.f) (p2i W.f) xq yy (shl_one xq xq) ?_)))));refine zzj 6 ⟨35,zw3⟩ (zzg 16 29 _ fun _ _ ar aj=>qym (k_ratOf aj (z:=p2i W.f) xq xq) ?_);rintro _ u18 ap ⟨r16,rfl,al⟩;refine zzg 17 116 _ fun _ _ ah an=>qym (k_ratMul an (hr.ext xe) (al.ext ah).raw xq xq) ?_;rintro _ u24 g25 ⟨ag,rfl,ak⟩;refine zzi ⟨35,ag.cs⟩ ty35 ?_;refine zzb (sq9 (zzj 7 ⟨33,[.bool false,qyn]⟩ (zzb (zzd (sq9 (zza 18 (.adr 2 2) (zzh 19 (zI W.r) ty3 zzk (zzb (zzs (sq9 (zza 23 (zB (W.r==2)) ?_)))))))))));refine zza 22 (zB (W.r==2)) (zzb (zzt (b:=W.r==2) xj (fun hb=>?_) (fun hb=>?_)))
 ·clear hb;refine zzy [0,0,3,7,15] [(0,[]),(1,[]),(2,[]),(3,[]),(4,[])] xj xj (zzh 24 (.v (ag.v)) ty35 zze (zzg 25 71 _ fun _ _ av ay=>qym (k_ratFrac ay (a:=1) (b:=2) xq xq xq xq) ?_));rintro _ u30 ax ⟨r28,rfl,aD⟩;refine zzg 26 117 _ fun _ _ ai aJ=>qym (k_ratAdd aJ (ak.ext xe).raw (aD.ext ai).raw xq xq) ?_;rintro _ u36 g37 ⟨r34,rfl,au⟩;refine zzg 27 119 _ fun _ _ aE aG=>qym (k_pfloor aG (au.ext aE).raw xq) ?_;rintro _ u42 g43 ⟨aa,rfl,aF⟩;refine zzi ⟨33,aa.cs⟩ ty33 ?_;refine zzw ?_;refine zzo (zzd (zzd ?_));have hZ:(flr (((Nt.gr k z)*((p2i W.f:Int):Rat))+(((1:Int):Rat)/((2:Int):Rat))))=z:=by rw[ao];exact nr_gr z k
  have hz45:=aF;rw[hZ] at hz45;have hlm:=NatN.one_len (int_mag hz45) xq;have hsz:aa.s=decide (z<0):=hz45.1;refine zzf (zza 37 (.adr 7 1) (zzh 38 (.v (aa.m.v)) ty31 zzk (zza 39 (zI aa.m.n) (zza 40 (zB (decide ((1:Int)<(aa.m.n:Int)))) (zzb (zzt (b:=decide ((1:Int)<(aa.m.n:Int))) xj (fun hb=>?_) (fun hb=>?_)))))))
  ·exact absurd hb (by rw[show(decide ((1:Int)<(aa.m.n:Int)))=false from decide_eq_false (by split at hlm<;>omega)];decide)
  clear hb;refine zzr (zzo ?_);refine sq9 (zza 8 (zI 0) (zzb (zzd (sq9 (zza 41 (.adr 7 1) (zzh 42 (.v (aa.m.v)) ty31 zzk (zza 43 (zI aa.m.n) (zza 44 (zB ((aa.m.n:Int)==1)) (zzb (zzt (b:=(aa.m.n:Int)==1) xj (fun ad=>?_) (fun ad=>?_)))))))))))
  ·have ae:(aa.m.n:Int)=1:=by simpa using ad
   have az:0<z.natAbs:=by have h9:=ad;simp at h9;split at hlm<;>omega
   refine zzf (zza 45 (.adr 7 1) (zzh 46 (.v (aa.m.v)) ty31 zzk ?_));obtain⟨bz,oz,haz,hcz⟩:=NatN.one_cell (int_mag hz45) az xq;refine zzz 47 (oz+0*1) (n:=aa.m.n) (off:=oz) (sz:=1) (i:=0) xq haz xq xq sl31 (zyk 48 (.int .u32 (z.natAbs:Nat)) hcz ty77 (sy_conv 49 ((z.natAbs:Nat):Int) (fun w=>by kernel_rfl) (IntWalk.i64_in _ xq) ?_));refine zza 8 (zI z.natAbs) (zzc 59 [(2,.adr 2 0),(7,.adr 7 0),(8,zI z.natAbs)] [(2,⟨87,W.cs⟩),(7,⟨33,aa.cs⟩)] (zzd (sq9 (zza 50 (.adr 7 0) (zzh 51 (zB aa.s) ty4 zzk (zzb (zzt (b:=aa.s) xj (fun ac=>?_) (fun ac=>?_))))))))
   ·replace ac:aa.s=true:=ac;have af:z<0:=by rw[hsz] at ac;exact qyt ac
    refine zzf (zza 52 (zI z.natAbs) (qwi 53 (0-(z.natAbs:Int)) (-(z.natAbs:Int)) xk (zza 8 (zI (-(z.natAbs:Int))) (zzb (zzd (sq9 (zzh 54 (.v (W.v)) ty87 zze (zza 55 (zI (-(z.natAbs:Int))) (zzg 56 120 _ fun _ _ _ aB=>qym (k_fxFits (W:=W) (z:=-(z.natAbs:Int)) aB hW xq xq) ?_)))))))));rintro _ u49 g50 rfl;refine zza 57 (zB false) (zzb (zyr xj (zzr (zzo ?_))));refine sq9 (zza 58 (zI (-(z.natAbs:Int))) (zza 4 (zI (-(z.natAbs:Int))) (zza 5 (zB true) (zzb (zzn (ret0 [.int .i64 (-(z.natAbs:Int)),.bool true] ⟨zzp,zzp,trivial⟩ fun u52 e53=>?_))))));show Value.tuple #[.int .i64 (-(z.natAbs:Int)),.bool true]=Value.tuple #[.int .i64 z,.bool true];rw[show(-(z.natAbs:Int):Int)=z by omega]
   replace ac:aa.s=false:=ac;have af:¬z<0:=by rw[hsz] at ac;exact qyf ac
   refine zzr (zzo ?_);refine zzd (sq9 (zzh 54 (.v (W.v)) ty87 zze (zza 55 (zI z.natAbs) (zzg 56 120 _ fun _ _ _ aq=>qym (k_fxFits (W:=W) (z:=(z.natAbs:Int)) aq hW xq xq) ?_))));rintro _ u55 g56 rfl;refine zza 57 (zB false) (zzb (zyr xj (zzr (zzo ?_))));refine sq9 (zza 58 (zI z.natAbs) (zza 4 (zI z.natAbs) (zza 5 (zB true) (zzb (zzn (ret0 [.int .i64 z.natAbs,.bool true] ⟨zzp,zzp,trivial⟩ fun u58 e59=>?_))))));show Value.tuple #[.int .i64 ((z.natAbs:Int)),.bool true]=Value.tuple #[.int .i64 z,.bool true];rw[show((z.natAbs:Int):Int)=z by omega]
  have ae:¬((aa.m.n:Int)=1):=by simpa using ad
  have hn0:z=0:=by have h9:=ad;simp at h9;split at hlm<;>omega
  refine zzr (zzo ?_);refine zzd (sq9 (zza 50 (.adr 7 0) (zzh 51 (zB aa.s) ty4 zzk (zzc 59 [(2,.adr 2 0),(8,zI 0),(51,zB aa.s)] [(2,⟨87,W.cs⟩)] (zzt (b:=aa.s) xj (fun ab=>?_) (fun ab=>?_))))))
  ·replace ab:aa.s=true:=ab;have af:z<0:=by rw[hsz] at ab;exact qyt ab
   refine zzf (zza 52 (zI 0) (zza 53 (zI 0) (zza 8 (zI 0) (zzb (zzd (sq9 (zzh 54 (.v (W.v)) ty87 zze (zza 55 (zI 0) (zzg 56 120 _ fun _ _ _ aH=>qym (k_fxFits (W:=W) (z:=0) aH hW xq xq) ?_)))))))));rintro _ u62 g63 rfl;refine zza 57 (zB false) (zzb (zyr xj (zzr (zzo ?_))));refine sq9 (zza 58 (zI 0) (zza 4 (zI 0) (zza 5 (zB true) (zzb (zzn (ret0 [.int .i64 0,.bool true] ⟨zzp,zzp,trivial⟩ fun u65 e66=>?_))))));show Value.tuple #[.int .i64 (0),.bool true]=Value.tuple #[.int .i64 z,.bool true];rw[show(0:Int)=z by omega]
  replace ab:aa.s=false:=ab;have af:¬z<0:=by rw[hsz] at ab;exact qyf ab
  refine zzr (zzo ?_);refine zzd (sq9 (zzh 54 (.v (W.v)) ty87 zze (zza 55 (zI 0) (zzg 56 120 _ fun _ _ _ aA=>qym (k_fxFits (W:=W) (z:=0) aA hW xq xq) ?_))));rintro _ u68 g69 rfl;refine zza 57 (zB false) (zzb (zyr xj (zzr (zzo ?_))));refine sq9 (zza 58 (zI 0) (zza 4 (zI 0) (zza 5 (zB true) (zzb (zzn (ret0 [.int .i64 0,.bool true] ⟨zzp,zzp,trivial⟩ fun u71 e72=>?_))))));show Value.tuple #[.int .i64 (0),.bool true]=Value.tuple #[.int .i64 z,.bool true];rw[show(0:Int)=z by omega]
 exact absurd hb (by rw[show(W.r==2)=true from(by rw[hr2];rfl)];decide)
theorem k_dcoef{u w:World}{a1 a2:RL}{x1 x2:Rat}{K k:Nat}(d:Dat u w)(ha1:RatV u a1 x1 K)(ha2:RatV u a2 x2 K)(hk1:1≤k)(hk2:k≤20)(hc0:-2097152≤coZ x1 x2 k)(hc1:coZ x1 x2 k≤2097152)(hK:K≤10000):qyc 18 #[IV a1 a2,.int .i64 (k:Int)] w (Post u w fun v u'=>v=.int .i64 (coZ x1 x2 k)):=by
 have hWk:WdOK (⟨24,(k:Int),2,1⟩:WL):=⟨(by show(4:Int)≤24;decide),(by show(24:Int)≤24;decide),Int.natCast_nonneg k,(by show(k:Int)<24;omega),(by show(1:Int)≤2;decide),(by show(2:Int)≤3;decide),(by show(1:Int)≤1;decide),(by show(1:Int)≤2;decide)⟩
 have ac:p2i (24-1)=8388608:=by decide
 unfold coZ at hc0 hc1
 refine zzl Tryz.func18 rfl Tryz.ntmps18 Tryz.results18 d ?_;refine sq9 (zzj 2 ⟨45,a1.cs++a2.cs⟩ (zza 4 (zI 0) (zzb (sq9 (zzh 11 (.v (.agg #[.bool a1.s,a1.m.v,a1.d.v,.bool a2.s,a2.m.v,a2.d.v])) ty45 zze (zzg 12 52 _ fun _ _ ab aj=>qym (k_ivMid aj (ha1.ext ab) (ha2.ext ab) xq) ?_))))));rintro _ u14 g15 ⟨r12,rfl,ad⟩;refine zza 13 (zI k) (zzg 14 51 _ fun _ _ ai ag=>qym (k_ratNearest (k:=k) xq ag (ad.ext ai).raw xq) ?_);rintro _ u20 g21 ⟨aa,rfl,af⟩;refine zza 10 (.v (.tuple #[aa.v,.int .i64 0])) (zza 15 (.v (aa.v)) (zza 16 (zI 0) (zzj 5 ⟨35,zw3⟩ (zzi ⟨35,aa.cs⟩ ty35 ?_))));refine zza 6 (zI 0) (zzb (zzd (sq9 (zza 17 (zI 0) (zza 18 (zB false) (zzb (zyr xj (zzr (zzo ?_)))))))));refine sq9 (zza 19 (zI k) (zza 20 (.v (.agg #[.int .i64 24,.int .i64 k,.int .i64 2,.int .i64 1])) (zzj 7 ⟨87,[.int .i64 0,.int .i64 0,.int .i64 0,.int .i64 0]⟩ (zzi ⟨87,[.int .i64 24,.int .i64 k,.int .i64 2,.int .i64 1]⟩ ty87 ?_))));refine zzb (sq9 (zzh 22 (.v (.agg #[.int .i64 24,.int .i64 k,.int .i64 2,.int .i64 1])) ty87 zze (zzh 23 (.v (aa.v)) ty35 zze (zzg 24 53 _ fun _ _ ae ah=>qym (k_fxNearest (W:=(⟨24,(k:Int),2,1⟩:WL)) (z:=(nrZ ((x1+x2)*(((1:Int):Rat)/((2:Int):Rat))) k)) (k:=k) ah hWk rfl rfl (af.ext ae).raw (by show -p2i (24-1)≤_;omega) (by show _<p2i (24-1);omega) xq) ?_))));rintro _ u24 g25 rfl;refine zza 21 (.v (.tuple #[.int .i64 (nrZ ((x1+x2)*(((1:Int):Rat)/((2:Int):Rat))) k),.bool true])) (zza 25 (zI (nrZ ((x1+x2)*(((1:Int):Rat)/((2:Int):Rat))) k)) (zza 26 (zB true) (zza 8 (zI (nrZ ((x1+x2)*(((1:Int):Rat)/((2:Int):Rat))) k)) (zza 9 (zB true) (zzb (sq9 (zza 27 (zI (nrZ ((x1+x2)*(((1:Int):Rat)/((2:Int):Rat))) k)) (zza 4 (zI (nrZ ((x1+x2)*(((1:Int):Rat)/((2:Int):Rat))) k)) (zzb (zzn (ret0 [.int .i64 (nrZ ((x1+x2)*(((1:Int):Rat)/((2:Int):Rat))) k)] ⟨zzp,trivial⟩ fun u27 e28=>?_)))))))))))
 rfl
theorem k_rotate{u w:World}{i j p q k:Nat}(d:Dat u w)(hi:i<64)(hj:j<64)(hij:i≠j)(hp:0<p)(hpq:2*p≤q)(hq:q≤500)(hk1:1≤k)(hk2:k≤20)(hO:RotOK p q k):qyc 4 #[.int .i64 (i:Int),.int .i64 (j:Int),.int .i64 (p:Int),.int .i64 (q:Int),.int .i64 (k:Int)] w (Post u w fun v u'=>∃x:Sl,v=.tuple #[x.v,.int .i64 0]∧IrV 4 u' x (roL i j p q k)):=by
 have hT0:=hO.t0;have hT1:=hO.t1;have hS0:=hO.s0;have hS1:=hO.s1
 unfold roT at hT0 hT1
 unfold roS at hS0 hS1
 refine zzl Tryz.func4 rfl Tryz.ntmps4 Tryz.results4 d ?_;refine sq9 (zza 10 (.v (qyn)) (zza 11 (zI 0) (zzb (zzd (sq9 (zza 22 (zI i) (zza 23 (zB (decide ((i:Int)<0))) (zqB 24 (show(decide ((i:Int)<0))=false from decide_eq_false xq) (zza 25 (zI i) ?_ (hw:=w1 2 false 24))))))))));refine zza 26 (zB (decide ((64:Int)≤(i:Int)))) ?_ (hw:=w1 2 false 24);refine zza 27 (zB (decide ((64:Int)≤(i:Int)))) (zqB 28 (show(decide ((64:Int)≤(i:Int)))=false from decide_eq_false xq) (zza 29 (zI j) ?_ (hw:=w1 6 false 28)));refine zza 30 (zB (decide ((j:Int)<0))) ?_ (hw:=w1 6 false 28);refine zza 31 (zB (decide ((j:Int)<0))) (zqB 32 (show(decide ((j:Int)<0))=false from decide_eq_false xq) (zza 33 (zI j) ?_ (hw:=w1 10 false 32)));refine zza 34 (zB (decide ((64:Int)≤(j:Int)))) ?_ (hw:=w1 10 false 32);refine zza 35 (zB (decide ((64:Int)≤(j:Int)))) (zqB 36 (show(decide ((64:Int)≤(j:Int)))=false from decide_eq_false xq) (zza 37 (zI i) ?_ (hw:=w1 14 false 36)));refine zza 38 (zI j) ?_ (hw:=w1 14 false 36);refine zza 39 (zB ((i:Int)==(j:Int))) ?_ (hw:=w1 14 false 36);refine zza 40 (zB ((i:Int)==(j:Int))) (zzb (zzt (b:=(i:Int)==(j:Int)) xj (fun hb=>?_) (fun hb=>?_)))
 ·exact absurd hb (by rw[show((i:Int)==(j:Int))=false from yw];decide)
 clear hb;refine zzr (zzo ?_);refine zzd (sq9 (zza 41 (zI q) (zza 42 (zB (decide ((500:Int)<(q:Int)))) (zqB 43 (show(decide ((500:Int)<(q:Int)))=false from decide_eq_false xq) (zza 44 (zI p) ?_ (hw:=w1 2 false 43))))));refine zza 45 (zB (decide ((p:Int)≤0))) ?_ (hw:=w1 2 false 43);refine zza 46 (zB (decide ((p:Int)≤0))) (zqB 47 (show(decide ((p:Int)≤0))=false from decide_eq_false xq) (zza 48 (zI p) ?_ (hw:=w1 6 false 47)));refine zza 49 (zI q) ?_ (hw:=w1 6 false 47);refine sy_quo 50 (n:=(q:Int)) (m:=2) ((q/2:Nat):Int) xw (by rw[Int.tdiv_eq_ediv_of_nonneg xq];exact(IntWalk.i64_in _ xq).trans xq) ?_ (hw:=w1 6 false 47);refine zza 51 (zB (decide (((q/2:Nat):Int)<(p:Int)))) ?_ (hw:=w1 6 false 47);refine zza 52 (zB (decide (((q/2:Nat):Int)<(p:Int)))) (zqB 53 (show(decide (((q/2:Nat):Int)<(p:Int)))=false from decide_eq_false xq) (zza 54 (zI k) ?_ (hw:=w1 12 false 53)));refine zza 55 (zB (decide ((k:Int)<1))) ?_ (hw:=w1 12 false 53);refine zza 56 (zB (decide ((k:Int)<1))) (zqB 57 (show(decide ((k:Int)<1))=false from decide_eq_false xq) (zza 58 (zI k) ?_ (hw:=w1 16 false 57)));refine zza 59 (zB (decide ((20:Int)<(k:Int)))) ?_ (hw:=w1 16 false 57);refine zza 60 (zB (decide ((20:Int)<(k:Int)))) (zzc 127 [(0,zI i),(1,zI j),(2,zI p),(3,zI q),(4,zI k),(60,zB (decide ((20:Int)<(k:Int))))] [] (zzt (b:=decide ((20:Int)<(k:Int))) xj (fun hb=>?_) (fun hb=>?_)))
 ·exact absurd hb (by rw[show(decide ((20:Int)<(k:Int)))=false from decide_eq_false xq];decide)
 clear hb;refine zzr (zzo ?_);refine sq9 (zza 62 (zI p) (zza 63 (zI q) (qwi 64 ((2:Int)*(q:Int)) (2*q:Nat) xk (zzg 65 15 _ fun _ _ _ aK=>qym (k_SinPiS (p:=(p:Int)) (q:=2*q) (k:=64) aK xq xq xq xq xq (GapS.two hO.g2)) ?_))));rintro _ u24 g25 ⟨af,ae,rfl,aw,az⟩;refine zza 61 (.v (.tuple #[.agg #[.bool af.s,af.m.v,af.d.v,.bool ae.s,ae.m.v,ae.d.v],.int .i64 0])) (zza 66 (.v (.agg #[.bool af.s,af.m.v,af.d.v,.bool ae.s,ae.m.v,ae.d.v])) (zza 67 (zI 0) (zzj 12 ⟨45,zw6⟩ (zzi ⟨45,af.cs++ae.cs⟩ ty45 ?_))));refine zza 13 (zI 0) (zzb (sq9 (zza 69 (zI p) (zza 70 (zI q) (qwi 71 ((2:Int)*(q:Int)) (2*q:Nat) xk (zzg 72 16 _ fun _ _ av aE=>qym (k_CosPiG (p:=(p:Int)) (q:=2*q) (k:=64) aE xq xq xq xq xq hO.g2) ?_))))));rintro _ u32 au ⟨ah,ag,rfl,aF,aL⟩;refine zza 68 (.v (.tuple #[.agg #[.bool ah.s,ah.m.v,ah.d.v,.bool ag.s,ag.m.v,ag.d.v],.int .i64 0])) (zza 73 (.v (.agg #[.bool ah.s,ah.m.v,ah.d.v,.bool ag.s,ag.m.v,ag.d.v])) (zza 74 (zI 0) (zzj 14 ⟨45,zw6⟩ (zzi ⟨45,ah.cs++ag.cs⟩ ty45 ?_))));refine zza 15 (zI 0) (zzb (sq9 (zza 76 (zI p) (zza 77 (zI q) (zzg 78 15 _ fun _ _ an aD=>qym (k_SinPiG (p:=(p:Int)) (q:=q) (k:=64) aD xq xq xq xq xq hO.g2) ?_)))));rintro _ u40 al ⟨ac,ad,rfl,aB,ax⟩;refine zza 75 (.v (.tuple #[.agg #[.bool ac.s,ac.m.v,ac.d.v,.bool ad.s,ad.m.v,ad.d.v],.int .i64 0])) (zza 79 (.v (.agg #[.bool ac.s,ac.m.v,ac.d.v,.bool ad.s,ad.m.v,ad.d.v])) (zza 80 (zI 0) (zzj 16 ⟨45,zw6⟩ (zzi ⟨45,ac.cs++ad.cs⟩ ty45 ?_))));refine zza 17 (zI 0) (zzb (sq9 (zzh 82 (.v (.agg #[.bool af.s,af.m.v,af.d.v,.bool ae.s,ae.m.v,ae.d.v])) ty45 zze (zzh 83 (.v (.agg #[.bool ah.s,ah.m.v,ah.d.v,.bool ag.s,ag.m.v,ag.d.v])) ty45 zze (zzg 84 17 _ fun _ _ aj aA=>qym (k_ivDivO aA (aw.ext xe).raw (az.ext xe).raw (aF.ext xe).raw (aL.ext xe).raw xq xq) ?_)))));rintro _ ay ap ⟨aa,ab,rfl,aI⟩;refine zza 81 (.v (.tuple #[.agg #[.bool aa.s,aa.m.v,aa.d.v,.bool ab.s,ab.m.v,ab.d.v],.int .i64 (divE (rCH p q).1 (rCH p q).2)])) (zza 85 (.v (.agg #[.bool aa.s,aa.m.v,aa.d.v,.bool ab.s,ab.m.v,ab.d.v])) (zza 86 (zI (divE (rCH p q).1 (rCH p q).2)) (zzj 18 ⟨45,zw6⟩ (zzi ⟨45,aa.cs++ab.cs⟩ ty45 ?_))));refine zza 19 (zI (divE (rCH p q).1 (rCH p q).2)) (zzc 127 [(0,zI i),(1,zI j),(4,zI k),(13,zI 0),(15,zI 0),(16,.adr 16 0),(17,zI 0),(18,.adr 18 0),(19,zI (divE (rCH p q).1 (rCH p q).2))] [(16,⟨45,ac.cs++ad.cs⟩),(18,⟨45,aa.cs++ab.cs⟩)] (zzd (sq9 (zza 87 (zI 0) (zza 88 (zB false) (zza 89 (zB false) (zza 90 (zI 0) ?_ (hw:=w1 2 false 89))))))));refine zza 91 (zB false) ?_ (hw:=w1 2 false 89);refine zza 92 (zB false) (zza 93 (zB false) (zza 94 (zI 0) ?_ (hw:=w1 6 false 93)));refine zza 95 (zB false) ?_ (hw:=w1 6 false 93);refine zza 96 (zB false) (zza 97 (zB false) (zza 98 (zI (divE (rCH p q).1 (rCH p q).2)) ?_ (hw:=w1 10 false 97)));refine zza 99 (zB ((divE (rCH p q).1 (rCH p q).2) != 0)) ?_ (hw:=w1 10 false 97);refine zza 100 (zB ((divE (rCH p q).1 (rCH p q).2) != 0)) (zzb (zzt (b:=(divE (rCH p q).1 (rCH p q).2) != 0) xj (fun hb=>?_) (fun hb=>?_)))
 ·exact absurd hb (by rw[show((divE (rCH p q).1 (rCH p q).2) != 0)=false from(by rw[hO.div.1];rfl)];decide)
 clear hb;refine zzr (zzo ?_);refine zzd ?_;have ai:OptI ay aa ab (divO (rSH p q).1 (rSH p q).2 (rCH p q).1 (rCH p q).2) (80+80+20):=aI;rw[hO.div.2] at ai;refine zzf (zzh 101 (.v (.agg #[.bool aa.s,aa.m.v,aa.d.v,.bool ab.s,ab.m.v,ab.d.v])) ty45 zze (zza 102 (zI k) (zzg 103 18 _ fun _ _ am aN=>qym (k_dcoef (x1:=(rTA p q).1) (x2:=(rTA p q).2) (k:=k) aN (ai.1.ext am).raw (ai.2.ext am).raw xq xq hO.t0 hO.t1 xq) ?_)));rintro _ u52 ar rfl;refine zza 20 (zI (coZ ((rTA p q).1) ((rTA p q).2) k)) (zzb (sq9 (zzh 104 (.v (.agg #[.bool ac.s,ac.m.v,ac.d.v,.bool ad.s,ad.m.v,ad.d.v])) ty45 zze (zza 105 (zI k) (zzg 106 18 _ fun _ _ aq aG=>qym (k_dcoef (x1:=(rSI p q).1) (x2:=(rSI p q).2) (k:=k) aG (aB.ext xe).raw (ax.ext xe).raw xq xq hO.s0 hO.s1 xq) ?_)))));rintro _ u56 g57 rfl;refine zza 21 (zI (coZ ((rSI p q).1) ((rSI p q).2) k)) (zzb (sq9 (zza 107 (zI i) (zza 108 (zI j) (zza 109 (zI (coZ ((rTA p q).1) ((rTA p q).2) k)) (zza 110 (zI k) (zza 111 (.v (.agg #[.int .i64 i,.int .i64 j,.int .i64 (coZ ((rTA p q).1) ((rTA p q).2) k),.int .i64 k])) (zza 112 (zI j) (zza 113 (zI i) (zza 114 (zI (coZ ((rSI p q).1) ((rSI p q).2) k)) (qwi 115 (0-(coZ ((rSI p q).1) ((rSI p q).2) k)) (-(coZ ((rSI p q).1) ((rSI p q).2) k)) xk ?_)))))))))));refine zza 116 (zI k) (zza 117 (.v (.agg #[.int .i64 j,.int .i64 i,.int .i64 (-(coZ ((rSI p q).1) ((rSI p q).2) k)),.int .i64 k])) (zza 118 (zI i) (zza 119 (zI j) (zza 120 (zI (coZ ((rTA p q).1) ((rTA p q).2) k)) (zza 121 (zI k) (zza 122 (.v (.agg #[.int .i64 i,.int .i64 j,.int .i64 (coZ ((rTA p q).1) ((rTA p q).2) k),.int .i64 k])) (zza 123 (zI j) (zza 124 (zI j) (zza 125 (.v (.agg #[.int .i64 j,.int .i64 j,.int .i64 0,.int .i64 (-2)])) (zxw 126 ⟨28,[.int .i64 i,.int .i64 j,.int .i64 (coZ ((rTA p q).1) ((rTA p q).2) k),.int .i64 k,.int .i64 j,.int .i64 i,.int .i64 (-(coZ ((rSI p q).1) ((rSI p q).2) k)),.int .i64 k,.int .i64 i,.int .i64 j,.int .i64 (coZ ((rTA p q).1) ((rTA p q).2) k),.int .i64 k,.int .i64 j,.int .i64 j,.int .i64 0,.int .i64 (-2)]⟩ 4 (fun ak aH e61 aJ=>?_)))))))))));have ao:IrV 4 aH (⟨some ⟨ak,0,none⟩,4,4⟩:Sl) [[(i:Int),(j:Int),(coZ ((rTA p q).1) ((rTA p q).2) k),(k:Int)],[(j:Int),(i:Int),-(coZ ((rSI p q).1) ((rSI p q).2) k),(k:Int)],[(i:Int),(j:Int),(coZ ((rTA p q).1) ((rTA p q).2) k),(k:Int)],[(j:Int),(j:Int),0,(-2)]]:=ir_data aJ (rows_cons rfl (rows_cons rfl (rows_cons rfl (rows_cons rfl rows_nil)))) rfl rfl rfl qyl yv;refine zza 10 (.v (.slice (some ⟨ak,0,none⟩) 4 4)) (zza 11 (zI 0) (zzc 127 [(10,.v (.slice (some ⟨ak,0,none⟩) 4 4)),(11,zI 0)] [] (zzn (ret0 [.slice (some ⟨ak,0,none⟩) 4 4,.int .i64 0] ⟨zzp,zzp,trivial⟩ fun u64 aM=>?_))));exact⟨(⟨some ⟨ak,0,none⟩,4,4⟩:Sl),rfl,(ao.ext aM)⟩
end Go.Proofs.YtcpnfblekhgmgaaGreat
namespace Go.Proofs.YtcpnfblekhgmgaaGreat
open Nt
namespace Nt
def gapC(b g q n:Nat):Bool:=Nat.rec true (fun p ih=>(bif Nat.beq (Nat.gcd (p+1) q) 1 then(bif Nat.beq (3*(p+1)) (2*q) then true else gapB (p+1) (2*q) b g) else true)&&ih) n
def gapD(b g a n:Nat):Bool:=Nat.rec true (fun i ih=>gapC b g (a+i+1) (a+i)&&ih) n
theorem gapC_ok{b g q:Nat}:∀n p,gapC b g q n=true→1≤p→p≤n→Nat.gcd p q=1→3*p≠2*q→gapB p (2*q) b g=true
 | 0,p,_,h1,h2,_,_=>by omega
 | n+1,p,h,h1,h2,h3,h4=>by
  have h':((bif Nat.beq (Nat.gcd (n+1) q) 1 then(bif Nat.beq (3*(n+1)) (2*q) then true else gapB (n+1) (2*q) b g) else true)&&gapC b g q n)=true:=h;rw[Bool.and_eq_true] at h'
  by_cases e:p=n+1
  ·subst e;have h5:=h'.1
   rw[h3,show Nat.beq 1 1=true from rfl,show Nat.beq (3*(n+1)) (2*q)=false by
    cases hh:Nat.beq (3*(n+1)) (2*q) with
    | false=>rfl
    | true=>exact absurd (Nat.eq_of_beq_eq_true hh) h4,cond_true,cond_false] at h5
   exact h5
  exact gapC_ok n p h'.2 h1 xq h3 h4
theorem gapD_ok{b g a:Nat}:∀n q,gapD b g a n=true→a<q→q≤a+n→gapC b g q (q-1)=true
 | 0,q,_,h1,h2=>by omega
 | n+1,q,h,h1,h2=>by
  have h':(gapC b g (a+n+1) (a+n)&&gapD b g a n)=true:=h;rw[Bool.and_eq_true] at h'
  by_cases e:q=a+n+1
  ·rw[e];exact h'.1
  exact gapD_ok n q h'.2 h1 xq
theorem gap_r0:gapD 64 90 0 150=true:=by decide +kernel
theorem gap_r1:gapD 64 90 150 62=true:=by decide +kernel
theorem gap_r2:gapD 64 90 212 48=true:=by decide +kernel
theorem gap_r3:gapD 64 90 260 40=true:=by decide +kernel
theorem gap_r4:gapD 64 90 300 36=true:=by decide +kernel
theorem gap_r5:gapD 64 90 336 32=true:=by decide +kernel
theorem gap_r6:gapD 64 90 368 29=true:=by decide +kernel
theorem gap_r7:gapD 64 90 397 28=true:=by decide +kernel
theorem gap_r8:gapD 64 90 425 26=true:=by decide +kernel
theorem gap_r9:gapD 64 90 451 25=true:=by decide +kernel
theorem gap_r10:gapD 64 90 476 23=true:=by decide +kernel
theorem gap_r11:gapD 64 90 499 1=true:=by decide +kernel
theorem gapC_all{q:Nat}(h1:1≤q)(hq:q≤500):gapC 64 90 q (q-1)=true:=by
 by_cases a0:q≤150
 ·exact gapD_ok _ _ gap_r0 xq xq
 by_cases a1:q≤212
 ·exact gapD_ok _ _ gap_r1 xq xq
 by_cases a2:q≤260
 ·exact gapD_ok _ _ gap_r2 xq xq
 by_cases a3:q≤300
 ·exact gapD_ok _ _ gap_r3 xq xq
 by_cases a4:q≤336
 ·exact gapD_ok _ _ gap_r4 xq xq
 by_cases a5:q≤368
 ·exact gapD_ok _ _ gap_r5 xq xq
 by_cases a6:q≤397
 ·exact gapD_ok _ _ gap_r6 xq xq
 by_cases a7:q≤425
 ·exact gapD_ok _ _ gap_r7 xq xq
 by_cases a8:q≤451
 ·exact gapD_ok _ _ gap_r8 xq xq
 by_cases a9:q≤476
 ·exact gapD_ok _ _ gap_r9 xq xq
 by_cases a10:q≤499
 ·exact gapD_ok _ _ gap_r10 xq xq
 exact gapD_ok _ _ gap_r11 xq xq
theorem gap_rot{p q:Nat}(h1:1≤q)(hq:q≤500)(hp1:1≤p)(hp:p<q)(h3:3*p≠2*q):Gap (coN p (2*q)) 64 90:=by
 obtain⟨d,hd⟩:∃d,Nat.gcd p q=d:=⟨_,rfl⟩
 have hd0:0<d:=by rw[←hd];exact Nat.gcd_pos_of_pos_right _ h1
 obtain⟨x,hx⟩:d∣p:=by rw[←hd];exact Nat.gcd_dvd_left _ _
 obtain⟨y,hy⟩:d∣q:=by rw[←hd];exact Nat.gcd_dvd_right _ _
 have hc:Nat.gcd x y=1:=by
  have h9:Nat.gcd (d*x) (d*y)=d*Nat.gcd x y:=Nat.gcd_mul_left _ _ _;rw[←hx,←hy,hd] at h9;exact Nat.eq_of_mul_eq_mul_left hd0 xq
 have hy1:1≤y:=by rcases Nat.eq_zero_or_pos y with e|e;(rw[e] at hy;omega);exact e
 have hx1:1≤x:=by rcases Nat.eq_zero_or_pos x with e|e;(rw[e] at hx;omega);exact e
 have hy5:y≤500:=Nat.le_trans (by rw[hy];exact Nat.le_mul_of_pos_left y hd0) hq;have hxy:x<y:=by rw[hx,hy] at hp;exact Nat.lt_of_mul_lt_mul_left hp
 have h3':3*x≠2*y:=fun e=>h3 (by rw[hx,hy,Nat.mul_left_comm,e,Nat.mul_left_comm]);have k:=gapB_ok (gapC_ok _ x (gapC_all hy1 hy5) hx1 xq hc h3') xq xq (show 64≤90 by decide) xw;rw[hx,hy,Nat.mul_left_comm];exact(Gap.scale hd0 xq).2 k
theorem gapQ_rot{q:Nat}(h1:1≤q)(hq:q≤500):GapQ (2*q) 64:=⟨90,by decide,fun p hp1 hp h3=>gap_rot h1 hq hp1 xq h3⟩
end Nt
namespace Nt
theorem csT_0:∀j,csT 0 (j+1)=0
 | 0=>by show csT 0 0*(0*0)/_=0;rw[Rat.mul_zero,Rat.mul_zero,Rat.div_def,Rat.zero_mul]
 | j+1=>by show csT 0 (j+1)*(0*0)/_=0;rw[Rat.mul_zero,Rat.mul_zero,Rat.div_def,Rat.zero_mul]
theorem coN_0{q:Nat}:∀m:Nat,coN 0 q (m+1)=1:=fun m=>by
 have hy:csY 0 q (m+1)=0:=by unfold csY;rw[show((0:Nat):Rat)=0 from rfl,Rat.mul_zero,Rat.div_def,Rat.zero_mul]
 unfold coN
 rw[hy]
 have:∀j:Nat,alt (csT 0) (j+1)=1:=fun j=>by
  induction j with
  | zero=>rw[alt_s];show 0+sgn 0*1=1;rw[show sgn 0=1 from rfl];decide +kernel
  | succ j ih=>rw[alt_s,ih,csT_0,Rat.mul_zero,Rat.add_zero]
 exact this m
theorem coN_le1{p q m:Nat}(hq:0<q)(hp:2*p≤q)(hm:1≤m):coN p q m≤1:=by
 obtain⟨j,rfl⟩:∃j,m=j+1:=⟨m-1,by omega⟩
 have h:=coN_mono (p:=0) (q:=1) (p':=p) (q':=q) (m:=j+1) xw hq xq hp hm
 rwa [coN_0] at h
theorem coN_14:∃N:Nat,∀m,N≤m→(7/10:Rat)≤coN 1 4 m:=by
 obtain⟨N,hN⟩:=cs8_ok (p:=1) (q:=4) xw xw;refine⟨N,fun m hm=>?_⟩;have h:=(hN m hm).1;have e:(7/10:Rat)*(u2 128:Rat)≤((xLo (cs8 1 4):Int):Rat):=by decide +kernel
 exact Rat.le_of_mul_le_mul_right (Rat.le_trans e h) (castI_pos (u2_pos 128))
theorem coN_12:∃N:Nat,∀m,N≤m→(-(1/1000000):Rat)≤coN 1 2 m:=by
 obtain⟨N,hN⟩:=cs8_ok (p:=1) (q:=2) xw xw;refine⟨N,fun m hm=>?_⟩;have h:=(hN m hm).1;have e:(-(1/1000000):Rat)*(u2 128:Rat)≤((xLo (cs8 1 2):Int):Rat):=by decide +kernel
 exact Rat.le_of_mul_le_mul_right (Rat.le_trans e h) (castI_pos (u2_pos 128))
theorem flo_ends{X:Nat→Rat}{g:Nat}{a b:Rat}(h:Gap X 64 g)(hX:∃N:Nat,∀m,N≤m→a≤X m∧X m≤b):a-1/1000000≤gr 64 (flo X 64)∧gr 64 (flo X 64)≤b∧gr 64 (flo X 64+1)≤b+1/1000000∧a≤gr 64 (flo X 64+1):=by
 obtain⟨N,hN⟩:=h.flO;obtain⟨M,hM⟩:=hX;obtain⟨h1,h2⟩:=hN (max N M) xq;obtain⟨h3,h4⟩:=hM (max N M) xq;generalize X (max N M)=x at *;generalize flo X 64=z at *;have hU:=castI_pos (u2_pos 64);have e1:=gr_mul 64 z;have e2:=gr_mul 64 (z+1);have e3:((z+1:Int):Rat)=(z:Rat)+1:=by rw[Rat.intCast_add];rfl
 have hs:(1:Rat)≤1/1000000*(u2 64:Rat):=by decide +kernel
 rw[e3] at h2 e2;generalize gr 64 z=y at *;generalize gr 64 (z+1)=v at *;generalize (u2 64:Rat)=U at *;have k1:=Rat.mul_le_mul_of_nonneg_right h3 (Rat.le_of_lt hU);have k2:=Rat.mul_le_mul_of_nonneg_right h4 (Rat.le_of_lt hU);refine⟨Rat.le_of_mul_le_mul_right ?_ hU,Rat.le_of_mul_le_mul_right ?_ hU,Rat.le_of_mul_le_mul_right ?_ hU,Rat.le_of_mul_le_mul_right ?_ hU⟩<;>grind
theorem cosA_ends{r q:Nat}(hq:0<q)(hr:2*r≤q)(hG:GapQ q 64):(-(1/100):Rat)≤(cosA r q 64).1∧(cosA r q 64).1≤101/100∧(-(1/100):Rat)≤(cosA r q 64).2∧(cosA r q 64).2≤101/100:=by
 by_cases h0:r=0
 ·rw[cosA_0 h0];decide +kernel
 by_cases h1:2*r=q
 ·rw[cosA_h h0 h1];decide +kernel
 by_cases h2:3*r=q
 ·rw[cosA_3 h0 h1 h2];decide +kernel
 rw[cosA_g h0 h1 h2];obtain⟨g,_,hg⟩:=hG;obtain⟨N,hN⟩:=coN_12;obtain⟨a,b,c,d⟩:=flo_ends (a:=-(1/1000000)) (b:=1) (hg r xq xq h2) ⟨max N 1,fun m hm=>⟨Rat.le_trans (hN m xq) (coN_mono hq xw xq xw xq),coN_le1 hq hr xq⟩⟩
 dsimp only
 refine⟨?_,?_,?_,?_⟩<;>grind
theorem cosA_low{r q:Nat}(hq:0<q)(hr0:0<r)(hr:4*r≤q)(hG:GapQ q 64):(2/3:Rat)≤(cosA r q 64).1∧(2/3:Rat)≤(cosA r q 64).2:=by
 rw[cosA_g xq xq xq];obtain⟨g,_,hg⟩:=hG;obtain⟨N,hN⟩:=coN_14;obtain⟨a,b,c,d⟩:=flo_ends (a:=7/10) (b:=1) (hg r xq xq xq) ⟨max N 1,fun m hm=>⟨Rat.le_trans (hN m xq) (coN_mono hq xw xq xw xq),coN_le1 hq xq xq⟩⟩
 dsimp only
 refine⟨?_,?_⟩<;>grind
theorem quo_bd{x y:Rat}(hy:(2/3:Rat)≤y)(h1:(-(1/100):Rat)≤x)(h2:x≤101/100):-1≤x/y∧x/y≤2:=by
 have hp:(0:Rat)<y:=by grind
 have e:x/y*y=x:=Rat.div_mul_cancel (by grind)
 constructor
 ·refine Rat.le_of_mul_le_mul_right ?_ hp;rw[e];grind
 refine Rat.le_of_mul_le_mul_right ?_ hp;rw[e];grind
theorem lo_bd{a b c d:Rat}(h1:c≤a∧a≤d)(h2:c≤b∧b≤d):c≤lo a b∧lo a b≤d:=by unfold lo;split<;>first|exact h1|exact h2
theorem hi_bd{a b c d:Rat}(h1:c≤a∧a≤d)(h2:c≤b∧b≤d):c≤hi a b∧hi a b≤d:=by unfold hi;split<;>first|exact h1|exact h2
theorem coZ_bd{x y:Rat}{k:Nat}(hk:k≤20)(h1:-1≤x∧x≤2)(h2:-1≤y∧y≤2):-2097152≤coZ x y k∧coZ x y k≤2097152:=by
 unfold coZ nrZ
 have hp:((2^k:Nat):Rat)≤1048576:=by
  have h:2^k≤2^20:=Nat.pow_le_pow_right xw hk;have:=Rat.natCast_le_natCast.2 h;exact this
 have hp0:(0:Rat)≤((2^k:Nat):Rat):=Rat.natCast_nonneg;rw[show((1:Int):Rat)=1 from rfl,show((2:Int):Rat)=2 from rfl];have hs:-1≤(x+y)*(1/2)∧(x+y)*(1/2)≤2:=by constructor<;>grind
 generalize (x+y)*(1/2)=s at *;generalize ((2^k:Nat):Rat)=P at *;have b1:=Rat.mul_le_mul_of_nonneg_right hs.1 hp0;have b2:=Rat.mul_le_mul_of_nonneg_right hs.2 hp0;obtain⟨f1,f2⟩:=flr_b (s*P+1/2);generalize flr (s*P+1/2)=z at *;have e3:((z+1:Int):Rat)=(z:Rat)+1:=by rw[Rat.intCast_add];rfl
 rw[e3] at f2
 constructor
 ·have:((-2097152:Int):Rat)≤(z:Rat):=by rw[show((-2097152:Int):Rat)=-2097152 from rfl];grind
  exact Rat.intCast_le_intCast.1 this
 have:(z:Rat)<((2097153:Int):Rat):=by rw[show((2097153:Int):Rat)=2097153 from rfl];grind
 have:=Rat.intCast_lt_intCast.1 this
 omega
theorem rotOK{p q k:Nat}(hp:0<p)(hpq:2*p≤q)(hq:q≤500)(hk:k≤20):RotOK p q k:=by
 have hG:=gapQ_rot (q:=q) xq hq;have hC:rCH p q=cosA p (2*q) 64:=cosV_lo (fold_id xq) xq
 have hS:rSH p q=cosA (q-p) (2*q) 64:=by
  unfold rSH
  rw[show((2*q:Nat):Int)-2*(p:Int)=2*((q-p:Nat):Int) by omega,cosV_two xq];exact cosV_lo (fold_id xq) xq
 have hI:rSI p q=cosA (q-2*p) (2*q) 64:=by
  unfold rSI
  rw[show((q:Nat):Int)-2*(p:Int)=((q-2*p:Nat):Int) by omega];exact cosV_lo (fold_id xq) xq
 obtain⟨c1,c2⟩:=cosA_low (r:=p) (q:=2*q) xq hp xq hG;obtain⟨s1,s2,s3,s4⟩:=cosA_ends (r:=q-p) (q:=2*q) xq xq hG;obtain⟨i1,i2,i3,i4⟩:=cosA_ends (r:=q-2*p) (q:=2*q) xq xq hG
 have hs:sgI (rCH p q).1 (rCH p q).2≠0:=by
  rw[hC]
  unfold sgI
  rw[if_pos (by have:=(lo_bd (c:=2/3) (d:=max (cosA p (2*q) 64).1 (cosA p (2*q) 64).2) ⟨c1,by grind⟩ ⟨c2,by grind⟩).1;grind)]
  decide
 have hT:(-1≤(rTA p q).1∧(rTA p q).1≤2)∧(-1≤(rTA p q).2∧(rTA p q).2≤2):=by
  have e:rTA p q=(lo4 ((rSH p q).1/(rCH p q).1) ((rSH p q).1/(rCH p q).2) ((rSH p q).2/(rCH p q).1) ((rSH p q).2/(rCH p q).2),hi4 ((rSH p q).1/(rCH p q).1) ((rSH p q).1/(rCH p q).2) ((rSH p q).2/(rCH p q).1) ((rSH p q).2/(rCH p q).2)):=by
   unfold rTA divO;rw[if_neg hs];rfl
  rw[e,hS,hC];have q1:=quo_bd c1 s1 s2;have q2:=quo_bd c2 s1 s2;have q3:=quo_bd c1 s3 s4;have q4:=quo_bd c2 s3 s4;exact⟨lo_bd (lo_bd (lo_bd q1 q2) q3) q4,hi_bd (hi_bd (hi_bd q1 q2) q3) q4⟩
 have t:=coZ_bd hk hT.1 hT.2;have s:=coZ_bd (x:=(rSI p q).1) (y:=(rSI p q).2) hk (by rw[hI];constructor<;>grind) (by rw[hI];constructor<;>grind);exact⟨hG,hs,t.1,t.2,s.1,s.2⟩
end Nt
open Go.RowKit
namespace Nt
def fr1(d:Int):Rat:=((1:Int):Rat)/(d:Rat)
theorem fr1_pos{d:Int}(h:0<d):0<fr1 d:=by
 unfold fr1
 rw[Rat.div_def];exact Rat.mul_pos (by decide +kernel) (Rat.inv_pos.2 (castI_pos h))
theorem gr_fr{k:Nat}{a d:Int}(h:0<d):gr k a*fr1 d*(u2 k:Rat)=(a:Rat)/(d:Rat):=by
 have h1:=gr_mul k a
 unfold fr1
 have e:gr k a*(((1:Int):Rat)/(d:Rat))*(u2 k:Rat)=gr k a*(u2 k:Rat)*(((1:Int):Rat)/(d:Rat)):=by grind
 rw[e,h1,Rat.div_def,Rat.div_def];show(a:Rat)*(1*(d:Rat)⁻¹)=_;rw[Rat.one_mul]
theorem fl_gr_fr{k:Nat}{a d:Int}(h:0<d):flU k (gr k a*fr1 d)=a/d∧ceU k (gr k a*fr1 d)=cdiv a d:=⟨flU_eq h (gr_fr h),ceU_eq h (gr_fr h)⟩
theorem fl_fr{k:Nat}{d:Int}(h:0<d):flU k (fr1 d)=u2 k/d∧ceU k (fr1 d)=cdiv (u2 k) d:=by
 have e:fr1 d=gr k (u2 k)*fr1 d:=by rw[gr_one,Rat.one_mul]
 rw[e];exact fl_gr_fr h
theorem sum_fr{k:Nat}{c a d:Int}(h:0<d):(gr k c+gr k a*fr1 d)*(u2 k:Rat)=((c*d+a:Int):Rat)/(d:Rat):=by
 rw[Rat.add_mul,gr_fr h,gr_mul,Rat.intCast_add,Rat.intCast_mul];have:=castI_pos h;have h':(d:Rat)≠0:=by grind
 generalize (d:Rat)=D at *
 grind
theorem fl_sum{k:Nat}{c a d:Int}(h:0<d):flU k (gr k c+gr k a*fr1 d)=c+a/d∧ceU k (gr k c+gr k a*fr1 d)=c+cdiv a d:=by
 rw[flU_eq h (sum_fr h),ceU_eq h (sum_fr h)]
 constructor
 ·rw[Int.add_comm,Int.add_mul_ediv_right _ _ xq,Int.add_comm]
 unfold cdiv
 rw[show -(c*d+a)=-a+(-c)*d by rw[Int.neg_mul];omega,Int.add_mul_ediv_right _ _ xq]
 omega
theorem fl_dif{k:Nat}{c a d:Int}(h:0<d):flU k (gr k c-gr k a*fr1 d)=c-cdiv a d∧ceU k (gr k c-gr k a*fr1 d)=c-a/d:=by
 have e:gr k c-gr k a*fr1 d=gr k c+gr k (-a)*fr1 d:=by rw[←gr_neg,Rat.neg_mul,Rat.sub_eq_add_neg]
 have h1:=fl_sum (k:=k) (c:=c) (a:=-a) h;rw[e,h1.1,h1.2]
 unfold cdiv
 rw[Int.neg_neg]
 omega
section
variable {k j:Nat} {a b c d D:Int}
theorem at_t(hab:a≤b)(hD:0<D):lo4 (gr k a*lo (fr1 D) (fr1 D)) (gr k a*hi (fr1 D) (fr1 D)) (gr k b*lo (fr1 D) (fr1 D)) (gr k b*hi (fr1 D) (fr1 D))=gr k a*fr1 D∧hi4 (gr k a*lo (fr1 D) (fr1 D)) (gr k a*hi (fr1 D) (fr1 D)) (gr k b*lo (fr1 D) (fr1 D)) (gr k b*hi (fr1 D) (fr1 D))=gr k b*fr1 D:=by
 rw[lo_self,hi_self];exact lo4_pt (gr_mono hab) (Rat.le_of_lt (fr1_pos hD))
theorem at_end(hD:0<D):decide (cmpQ (gr k b*fr1 D) (gr k 1)≤0)=decide (b≤D):=by
 rw[cmpQ_le,decide_eq_decide];have hU:=castI_pos (u2_pos k);have hDr:=castI_pos hD
 constructor
 ·intro h;have h1:=Rat.mul_le_mul_of_nonneg_right h (Rat.le_of_lt hU);rw[gr_fr hD,gr_mul] at h1;have h2:=Rat.mul_le_mul_of_nonneg_right h1 (Rat.le_of_lt hDr);rw[div_mul_c hDr,←Rat.intCast_mul,Int.one_mul] at h2;exact Rat.intCast_le_intCast.1 h2
 intro h;refine Rat.le_of_mul_le_mul_right (c:=(u2 k:Rat)) ?_ hU;rw[gr_fr hD,gr_mul];refine dv_le hDr ?_;rw[←Rat.intCast_mul,Int.one_mul];exact Rat.intCast_le_intCast.2 h
theorem at_o(hb:0≤b)(hcd:c≤d)(hD:0<D):flU k (lo (gr k c) (gr k d)+lo (lo (-(gr k b*fr1 D)) (gr k b*fr1 D)) (hi (-(gr k b*fr1 D)) (gr k b*fr1 D)))=c-cdiv b D∧ceU k (hi (gr k c) (gr k d)+hi (lo (-(gr k b*fr1 D)) (gr k b*fr1 D)) (hi (-(gr k b*fr1 D)) (gr k b*fr1 D)))=d+cdiv b D:=by
 have h0:0≤gr k b*fr1 D:=Rat.mul_nonneg (gr_nn hb) (Rat.le_of_lt (fr1_pos hD));have e1:=lo_of_le (gr_mono (w:=k) hcd);have e2:=lo_of_le (show -(gr k b*fr1 D)≤gr k b*fr1 D by grind);rw[e1.1,e1.2,e2.1,e2.2,e2.1,e2.2,←Rat.sub_eq_add_neg,(fl_dif hD).1,(fl_sum hD).2];exact⟨rfl,rfl⟩
theorem at_a(hab:a≤b)(hcd:c≤d)(hD:0<D):flU k (lo (gr k c) (gr k d)+lo (gr k a*fr1 D) (gr k b*fr1 D))=c+a/D∧ceU k (hi (gr k c) (gr k d)+hi (gr k a*fr1 D) (gr k b*fr1 D))=d+cdiv b D:=by
 have e1:=lo_of_le (gr_mono (w:=k) hcd);have e2:=lo_of_le (Rat.mul_le_mul_of_nonneg_right (gr_mono (w:=k) hab) (Rat.le_of_lt (fr1_pos hD)));rw[e1.1,e1.2,e2.1,e2.2,(fl_sum hD).1,(fl_sum hD).2];exact⟨rfl,rfl⟩
theorem at_s(hab:a≤b)(hcd:c≤d)(hD:0<D):flU k (lo (gr k c) (gr k d)-hi (gr k a*fr1 D) (gr k b*fr1 D))=c-cdiv b D∧ceU k (hi (gr k c) (gr k d)-lo (gr k a*fr1 D) (gr k b*fr1 D))=d-a/D:=by
 have e1:=lo_of_le (gr_mono (w:=k) hcd);have e2:=lo_of_le (Rat.mul_le_mul_of_nonneg_right (gr_mono (w:=k) hab) (Rat.le_of_lt (fr1_pos hD)));rw[e1.1,e1.2,e2.1,e2.2,(fl_dif hD).1,(fl_dif hD).2];exact⟨rfl,rfl⟩
theorem at_x(hab:a≤b)(hD:0<D):flU k (lo4 (gr k a*lo (fr1 D) (fr1 D)) (gr k a*hi (fr1 D) (fr1 D)) (gr k b*lo (fr1 D) (fr1 D)) (gr k b*hi (fr1 D) (fr1 D)))=a/D∧ceU k (hi4 (gr k a*lo (fr1 D) (fr1 D)) (gr k a*hi (fr1 D) (fr1 D)) (gr k b*lo (fr1 D) (fr1 D)) (gr k b*hi (fr1 D) (fr1 D)))=cdiv b D:=by
 have h:=at_t (k:=k) hab hD;rw[h.1,h.2,(fl_gr_fr hD).1,(fl_gr_fr hD).2];exact⟨rfl,rfl⟩
theorem pi_m{m:Nat}(hab:a≤b):lo4 (gr k a*lo ((m:Int):Rat) ((m:Int):Rat)) (gr k a*hi ((m:Int):Rat) ((m:Int):Rat)) (gr k b*lo ((m:Int):Rat) ((m:Int):Rat)) (gr k b*hi ((m:Int):Rat) ((m:Int):Rat))=gr k (a*(m:Int))∧hi4 (gr k a*lo ((m:Int):Rat) ((m:Int):Rat)) (gr k a*hi ((m:Int):Rat) ((m:Int):Rat)) (gr k b*lo ((m:Int):Rat) ((m:Int):Rat)) (gr k b*hi ((m:Int):Rat) ((m:Int):Rat))=gr k (b*(m:Int)):=by
 have h0:(0:Rat)≤((m:Int):Rat):=Rat.intCast_le_intCast.2 (show(0:Int)≤(m:Int) by omega);rw[lo_self,hi_self];have h:=lo4_pt (gr_mono (w:=k) hab) h0;rw[h.1,h.2,Rat.mul_comm,gr_int,Rat.mul_comm,gr_int,Int.mul_comm,Int.mul_comm b];exact⟨rfl,rfl⟩
end
theorem sq_of_nn{x y:Rat}(h0:0≤x)(h:x≤y)(hy:0<y):sql x y=x*x∧sqh x y=y*y:=by
 have hm:=mulm h h h0 h0;have e:=lo_of_le hm;have e2:=lo_of_le h
 unfold sql sqh sgI
 rw[e.1,e.2,e2.1,e2.2];refine⟨?_,rfl⟩
 by_cases hx:0<x
 ·rw[if_pos hx,if_neg xw]
 have:x=0:=by grind
 subst this;rw[if_neg hx,if_neg (Rat.not_lt.2 (Rat.le_of_lt hy)),if_pos rfl,Rat.zero_mul]
section
variable {k j:Nat} {tl th ql qh c d z:Int}
theorem cs_end:decide (cmpQ (gr k th) (gr k 1)≤0)=decide (th≤1):=by rw[cmpQ_le,decide_eq_decide];exact gr_le
theorem cs_o(ht:0≤th)(hcd:c≤d):lo (gr k c) (gr k d)+lo (lo (-gr k th) (gr k th)) (hi (-gr k th) (gr k th))=gr k (c-th)∧hi (gr k c) (gr k d)+hi (lo (-gr k th) (gr k th)) (hi (-gr k th) (gr k th))=gr k (d+th):=by
 have e1:=lo_of_le (gr_mono (w:=k) hcd);have e2:=lo_of_le (show -gr k th≤gr k th by rw[gr_neg];exact gr_mono xq);rw[e1.1,e1.2,e2.1,e2.2,e2.1,e2.2,←Rat.sub_eq_add_neg,gr_sub,gr_add];exact⟨rfl,rfl⟩
theorem cs_a(ht:tl≤th)(hcd:c≤d):lo (gr k c) (gr k d)+lo (gr k tl) (gr k th)=gr k (c+tl)∧hi (gr k c) (gr k d)+hi (gr k tl) (gr k th)=gr k (d+th):=by
 have e1:=lo_of_le (gr_mono (w:=k) hcd);have e2:=lo_of_le (gr_mono (w:=k) ht);rw[e1.1,e1.2,e2.1,e2.2,gr_add,gr_add];exact⟨rfl,rfl⟩
theorem cs_s(ht:tl≤th)(hcd:c≤d):lo (gr k c) (gr k d)-hi (gr k tl) (gr k th)=gr k (c-th)∧hi (gr k c) (gr k d)-lo (gr k tl) (gr k th)=gr k (d-tl):=by
 have e1:=lo_of_le (gr_mono (w:=k) hcd);have e2:=lo_of_le (gr_mono (w:=k) ht);rw[e1.1,e1.2,e2.1,e2.2,gr_sub,gr_sub];exact⟨rfl,rfl⟩
theorem grr_fr{x y D:Int}(hD:0<D):gr k x*gr k y*fr1 D*(u2 k:Rat)=((x*y:Int):Rat)/((u2 k*D:Int):Rat):=by
 have a:=castI_pos (u2_pos k);have b:=castI_pos hD
 unfold gr fr1
 rw[Rat.intCast_mul,Rat.intCast_mul];have a':(u2 k:Rat)≠0:=by grind
 have b':(D:Rat)≠0:=by grind
 have e:((1:Int):Rat)=1:=rfl;rw[e];generalize (u2 k:Rat)=p at *;generalize (D:Rat)=q at *
 grind
theorem cs_t(h0:0≤tl)(ht:tl≤th)(q0:0≤ql)(hq:ql≤qh){F:Rat}(hF:F=fr1 (coD j)):
  flU k (lo4 (lo4 (gr k tl*gr k ql) (gr k tl*gr k qh) (gr k th*gr k ql) (gr k th*gr k qh)*lo F F) (lo4 (gr k tl*gr k ql) (gr k tl*gr k qh) (gr k th*gr k ql) (gr k th*gr k qh)*hi F F) (hi4 (gr k tl*gr k ql) (gr k tl*gr k qh) (gr k th*gr k ql) (gr k th*gr k qh)*lo F F) (hi4 (gr k tl*gr k ql) (gr k tl*gr k qh) (gr k th*gr k ql) (gr k th*gr k qh)*hi F F))=csL k j tl ql ∧
  ceU k (hi4 (lo4 (gr k tl*gr k ql) (gr k tl*gr k qh) (gr k th*gr k ql) (gr k th*gr k qh)*lo F F) (lo4 (gr k tl*gr k ql) (gr k tl*gr k qh) (gr k th*gr k ql) (gr k th*gr k qh)*hi F F) (hi4 (gr k tl*gr k ql) (gr k tl*gr k qh) (gr k th*gr k ql) (gr k th*gr k qh)*lo F F) (hi4 (gr k tl*gr k ql) (gr k tl*gr k qh) (gr k th*gr k ql) (gr k th*gr k qh)*hi F F))=csH k j th qh:=by
 have hD:=coD_pos j;have hU:=u2_pos k;have e1:=lo4_nn (gr_mono (w:=k) ht) (gr_mono (w:=k) hq) (gr_nn h0) (gr_nn q0);have hm:=mulm (gr_mono (w:=k) ht) (gr_mono (w:=k) hq) (gr_nn h0) (gr_nn q0);have hf:=fr1_pos (d:=coD j) xq;rw[hF,lo_self,hi_self,e1.1,e1.2,(lo4_pt hm (Rat.le_of_lt hf)).1,(lo4_pt hm (Rat.le_of_lt hf)).2];have hUD:0<u2 k*coD j:=Int.mul_pos hU xq;rw[flU_eq hUD (grr_fr xq),ceU_eq hUD (grr_fr xq)]
 unfold csL csH
 rw[cdiv_cdiv hU xq,Int.ediv_ediv_of_nonneg xq];exact⟨rfl,rfl⟩
theorem coD_mulR(h:j≤1000):IntKind.i64.wrap (((2*j+1:Nat):Int)*((2*j+2:Nat):Int))=coD j∧coD j≤10000000:=by
 have h1:=coD_mul h
 have e:((2*j+1:Nat):Int)*((2*j+2:Nat):Int)=((2*j+2:Nat):Int)*((2*j+2-1:Nat):Int):=by
  rw[show 2*j+2-1=2*j+1 by omega,Int.mul_comm]
 rw[e];exact h1
theorem tight_hi:(mkRat z 1+((1:Int):Rat))/(((2^k:Nat):Int):Rat)=gr k (z+1):=by
 rw[mk_one,←Rat.intCast_add];rfl
theorem tight_lo:mkRat z 1/(((2^k:Nat):Int):Rat)=gr k z:=by rw[mk_one];rfl
end
theorem gr_rs{k:Nat}{z:Int}{L:Nat}(hz:dl z.natAbs≤L)(hk:k<32*L):rs (gr k z)≤L:=by
 have e:gr k z=mkRat z (2^k):=by unfold gr;rw[Rat.mkRat_eq_div];rfl
 rw[e];refine rs_mk hz ?_ xq;have h:=dl_u2 (z:=u2 k) (L:=L) (b:=k) (by have:=u2_pos k;omega) (Int.le_refl _) hk;have e2:(u2 k).natAbs=2^k:=Int.natAbs_natCast _
 rwa [e2] at h
end Nt
theorem RatN.limG{u:World}{r:RL}{z:Int}{k K:Nat}(h:RatN u r (Nt.gr k z) K)(h0:-(Nt.u2 1000)≤z)(h1:z≤Nt.u2 1000)(hk:k≤800):RatN u r (Nt.gr k z) 40:=h.fit (gr_rs (dl_u2 h0 h1 xw) xq)
theorem k_wide{u w:World}{a1 a2:RL}{x1 x2:Rat}{K k:Nat}(d:Dat u w)(ha1:RatV u a1 x1 K)(ha2:RatV u a2 x2 K)(hk:k≤800)(hK:K≤100000):qyc 124 #[IV a1 a2,.int .i64 (k:Int)] w (Post u w fun v u'=>∃r1 r2:RL,v=IV r1 r2∧RatN u' r1 (Nt.gr k (flU k x1)) (K+70)∧RatN u' r2 (Nt.gr k (ceU k x2)) (K+70)):=by
 refine zzl Tryz.func124 rfl Tryz.ntmps124 Tryz.results124 d ?_;refine sq9 (zzj 2 ⟨45,a1.cs++a2.cs⟩ (zzj 4 ⟨45,zw6⟩ (zzb (sq9 (zza 8 (zI k) (zzg 9 122 _ fun _ _ az aY=>qym (k_unit (k:=k) aY xq) ?_))))));rintro _ u14 aE ⟨ak,rfl,ao⟩;refine zzj 5 ⟨35,zw3⟩ (zzi ⟨35,ak.cs⟩ ty35 ?_);refine zzb (sq9 (zza 10 (.adr 2 0) (zzh 11 (.v (a1.v)) ty35 zze (zzh 12 (.v (ak.v)) ty35 zze (zzg 13 13 _ fun _ _ af aK=>qym (k_rqMul aK (ha1.ext xe) (ao.ext af).raw xq xq) ?_)))));rintro _ u20 ar ⟨r18,rfl,aJ⟩;refine zzg 14 123 _ fun _ _ ah aO=>qym (k_floor aO (aJ.ext ah).raw xq) ?_;rintro _ u26 av ⟨ae,rfl,aI⟩;refine zxw 15 ⟨77,[.int .u32 1]⟩ 1 (fun ax u30 ai aG=>?_);refine zza 16 (.v (.agg #[.bool ae.s,ae.m.v,.slice (some ⟨ax,0,none⟩) 1 1])) (zzj 6 ⟨35,zw3⟩ (zzi ⟨35,ae.cs++[.slice (some ⟨ax,0,none⟩) 1 1]⟩ ty35 ?_));refine zzb (sq9 (zza 17 (.adr 2 3) (zzh 18 (.v (a2.v)) ty35 zze (zzh 19 (.v (ak.v)) ty35 zze (zzg 20 13 _ fun _ _ ac aZ=>qym (k_rqMul aZ (ha2.ext (az.t (aE.t (af.t (ar.t (ah.t (av.t (ai.trans ac)))))))) (ao.ext (af.t (ar.t (ah.t (av.t (ai.trans ac)))))).raw xq xq) ?_)))));rintro _ u36 aq ⟨r34,rfl,aN⟩;refine zzg 21 62 _ fun _ _ al aW=>qym (k_rqNeg aW (aN.ext al).raw xq) ?_;rintro _ u42 au ⟨r40,rfl,aU⟩;refine zzg 22 123 _ fun _ _ aj aM=>qym (k_floor aM (aU.ext aj).raw xq) ?_;rintro _ u48 ap ⟨ay,rfl,aQ⟩;refine zxw 23 ⟨77,[.int .u32 1]⟩ 1 (fun aF u52 ag aS=>?_);refine zza 24 (.v (.agg #[.bool ay.s,ay.m.v,.slice (some ⟨aF,0,none⟩) 1 1])) (zzg 25 62 _ fun _ _ ad aT=>qym (k_rqNeg aT (rat_mk2 (s:=ay.s) (aQ.ext (ag.trans ad)).raw ((one_data aS).ext ad).raw) xq) ?_);rintro _ u58 an ⟨aA,rfl,aL⟩;refine zzj 7 ⟨35,zw3⟩ (zzi ⟨35,aA.cs⟩ ty35 ?_);refine zzb (zzd (zzy [0,0,3,0,0,31,63,127] [(0,[]),(1,[]),(3,[]),(4,[]),(2,[]),(5,[]),(6,[]),(7,[])] xj xj (zzh 26 (.v (.agg #[.bool ae.s,ae.m.v,.slice (some ⟨ax,0,none⟩) 1 1])) ty35 zze (zzh 27 (.v (ak.v)) ty35 zze (zzh 29 (.v (aA.v)) ty35 zze (zzh 30 (.v (ak.v)) ty35 zze (zzg 28 64 _ fun _ _ am aX=>qym (k_rqOver aX (rat_mk2 (s:=ae.s) (aI.ext xe).raw ((one_data aG).ext xe).raw) (ao.ext xe).raw xq xq) ?_)))))));rintro _ u64 aD ⟨aa,rfl,aV⟩;refine zzg 31 64 _ fun _ _ aw aR=>qym (k_rqOver aR (aL.ext xe).raw (ao.ext xe).raw xq xq) ?_;rintro _ u70 aP ⟨ab,rfl,aH⟩;refine zza 32 (.v (.agg #[.bool aa.s,aa.m.v,aa.d.v,.bool ab.s,ab.m.v,ab.d.v])) (zzi ⟨45,aa.cs++ab.cs⟩ ty45 ?_);refine zzc 33 [(4,.adr 4 0)] [(4,⟨45,aa.cs++ab.cs⟩)] (zzn (ret0 [.agg #[.bool aa.s,aa.m.v,aa.d.v,.bool ab.s,ab.m.v,ab.d.v]] ⟨zzq ty45 zze,trivial⟩ fun u73 aB=>?_));refine⟨aa,ab,rfl,RatN.more (K:=((max (max ((K+(k/32+2)+1)+1) 1) 1)+(k/32+2)+2)) ?_ xq,RatN.more (K:=((max (max ((K+(k/32+2)+1)+1) 1) 1)+(k/32+2)+2)) ?_ xq⟩
 ·have h9:=(aV.ext (aw.t (aP.t aB)))
  rw[mk_one] at h9;exact h9
 have h9:=(aH.ext aB)
 rw[mk_one,←Rat.intCast_neg] at h9;exact h9
theorem k_atan{u w:World}{n k:Nat}(d:Dat u w)(hn:2≤n)(hn2:n≤1000)(hk:k≤800):qyc 128 #[.int .i64 (n:Int),.int .i64 (k:Int)] w (Post u w fun v u'=>∃(r1 r2:RL) (a b:Int),v=IV r1 r2∧RatN u' r1 (Nt.gr k a) 40∧RatN u' r2 (Nt.gr k b) 40∧AtR n k a b):=by
 have hN2:4≤n*n:=Nat.mul_le_mul hn hn;have hN3:n*n≤1000000:=Nat.mul_le_mul hn2 hn2;have hbig:=big hk;have hu2:=u2_pos k;refine zzl Tryz.func128 rfl Tryz.ntmps128 Tryz.results128 d ?_;refine sq9 (zzj 4 ⟨45,zw6⟩ (zzb (sq9 (zzg 11 14 _ fun _ _ _ dF=>qym (k_rqOf dF (z:=0) xq xq) ?_))));rintro _ u14 g15 ⟨r12,rfl,cV⟩;refine zzg 12 14 _ fun _ _ dy cH=>qym (k_rqOf cH (z:=0) xq xq) ?_;rintro _ u20 df ⟨r18,rfl,cW⟩;refine zzg 13 37 _ fun _ _ cu cL=>qym (k_r4Make cL (cV.ext xe).raw (cW.ext cu).raw xq) ?_;rintro _ u28 g29 ⟨b3,bS,rfl,cF,dk⟩;refine zzj 5 ⟨45,zw6⟩ (zzi ⟨45,b3.cs++bS.cs⟩ ty45 ?_);refine zzb (sq9 (zza 14 (zI n) (zzg 15 57 _ fun _ _ cv dr=>qym (k_rqFrac dr (a:=1) (b:=(n:Int)) xq xq xq xq) ?_)));rintro _ u34 cw ⟨r32,rfl,cG⟩;refine zza 16 (zI n) (zzg 17 57 _ fun _ _ b7 cI=>qym (k_rqFrac cI (a:=1) (b:=(n:Int)) xq xq xq xq) ?_);rintro _ u40 b4 ⟨r38,rfl,cP⟩;refine zzg 18 37 _ fun _ _ bv cD=>qym (k_r4Make cD (cG.ext xe).raw (cP.ext bv).raw xq) ?_;rintro _ u48 ct ⟨bw,br,rfl,dC,dj⟩;refine zzj 6 ⟨45,zw6⟩ (zzi ⟨45,bw.cs++br.cs⟩ ty45 ?_);refine zzb (sq9 (zzh 19 (.v (.agg #[.bool bw.s,bw.m.v,bw.d.v,.bool br.s,br.m.v,br.d.v])) ty45 zze (zza 20 (zI k) (zzg 21 124 _ fun _ _ bs da=>qym (k_wide (k:=k) da (dC.ext bs).raw (dj.ext bs).raw xq xq) ?_))));rintro _ u56 cA ⟨cb,bT,rfl,c4,cU⟩;refine zzi ⟨45,cb.cs++bT.cs⟩ ty45 ?_;refine zzb (sq9 (zza 22 (zI n) (zza 23 (zI n) (qwi 24 ((n:Int)*(n:Int)) (n*n:Nat) (by rw[←Int.natCast_mul];exact IntWalk.i64_in _ xq) (zzg 25 57 _ fun _ _ bx cK=>qym (k_rqFrac cK (a:=1) (b:=((n*n:Nat):Int)) xq xq xq xq) ?_)))));rintro _ u62 bt ⟨r60,rfl,c6⟩;refine zza 26 (zI n) (zza 27 (zI n) (qwi 28 ((n:Int)*(n:Int)) (n*n:Nat) (by rw[←Int.natCast_mul];exact IntWalk.i64_in _ xq) (zzg 29 57 _ fun _ _ be cM=>qym (k_rqFrac cM (a:=1) (b:=((n*n:Nat):Int)) xq xq xq xq) ?_)));rintro _ u68 ba ⟨r66,rfl,c0⟩;refine zzg 30 37 _ fun _ _ a9 dv=>qym (k_r4Make dv (c6.ext xe).raw (c0.ext a9).raw xq) ?_;rintro _ u76 bz ⟨aO,aQ,rfl,cx,cy⟩;refine zzj 7 ⟨45,zw6⟩ (zzi ⟨45,aO.cs++aQ.cs⟩ ty45 ?_);refine zzb (sq9 (zzg 31 14 _ fun _ _ aV c2=>qym (k_rqOf c2 (z:=1) xq xq) ?_));rintro _ u82 aY ⟨r80,rfl,ds⟩;refine zza 32 (zI k) (zzg 33 122 _ fun _ _ aP cE=>qym (k_unit (k:=k) cE xq) ?_);rintro _ u88 aS ⟨r86,rfl,cR⟩;refine zzg 34 64 _ fun _ _ aJ c3=>qym (k_rqOver c3 (ds.ext xe).raw (cR.ext aJ).raw xq xq) ?_;rintro _ cO aW ⟨bu,rfl,dD⟩;refine zzj 8 ⟨35,zw3⟩ (zzi ⟨35,bu.cs⟩ ty35 ?_)
 refine zzc 80 [(1,zI k),(4,.adr 4 0),(5,.adr 5 0),(6,.adr 6 0),(7,.adr 7 0),(8,.adr 8 0)] [(4,⟨45,zw6⟩),(5,⟨45,b3.cs++bS.cs⟩),(6,⟨45,cb.cs++bT.cs⟩),(7,⟨45,aO.cs++aQ.cs⟩),(8,⟨35,bu.cs⟩)] (sq9 (zza 9 (zI 0) (zzb (zzs (zym (I:=fun cz S' u'=>∃(j:Nat) (x1:RL) (x2:RL) (y1:RL) (y2:RL) (a:Int) (b:Int) (cc:Int) (dd:Int),(cz=b.toNat)∧(AtF n k j a b cc dd)∧(S'=St.of 80 [(1,zI k),(4,.adr 4 0),(5,.adr 5 0),(6,.adr 6 0),(7,.adr 7 0),(8,.adr 8 0),(9,zI j)] [(4,⟨45,zw6⟩),(5,⟨45,y1.cs++y2.cs⟩),(6,⟨45,x1.cs++x2.cs⟩),(7,⟨45,aO.cs++aQ.cs⟩),(8,⟨35,bu.cs⟩)])∧(Ext cO u')∧(RatN u' x1 (Nt.gr k a) 40)∧(RatN u' x2 (Nt.gr k b) 40)∧(RatN u' y1 (Nt.gr k cc) 40)∧(RatN u' y2 (Nt.gr k dd) 40)) (fun m S u1 u2 e h=>by obtain⟨j,x1,x2,y1,y2,a,b,cc,dd,hm,p0,hS,hE,f0,f1,f2,f3⟩:=h;exact⟨j,x1,x2,y1,y2,a,b,cc,dd,hm,p0,hS,hE.trans e,f0.ext e,f1.ext e,f2.ext e,f3.ext e⟩) _ yq ⟨0,cb,bT,b3,bS,(Nt.u2 k/(n:Int)),(cdiv (Nt.u2 k) (n:Int)),0,0,rfl,(AtF.start xq),rfl,(Ext.refl _),(RatN.limG (by have h9:=(c4.ext (bx.t (bt.t (be.t (ba.t (a9.t (bz.t (aV.t (aY.t (aP.t (aS.t (aJ.t aW.ext))))))))))));rw[lo_self,show(((1:Int):Rat)/((n:Int):Rat))=fr1 (n:Int) from rfl,(fl_fr xq).1] at h9;exact h9) (by have h8:=(AtF.start (n:=n) (w:=k) xq).bd xq;have h7:=(AtF.start (n:=n) (w:=k) xq).ab;have h6:=(AtF.start (n:=n) (w:=k) xq).p0;omega) (by have h8:=(AtF.start (n:=n) (w:=k) xq).bd xq;have h7:=(AtF.start (n:=n) (w:=k) xq).ab;have h6:=(AtF.start (n:=n) (w:=k) xq).p0;omega) hk),(RatN.limG (by have h9:=(cU.ext (bx.t (bt.t (be.t (ba.t (a9.t (bz.t (aV.t (aY.t (aP.t (aS.t (aJ.t aW.ext))))))))))));rw[hi_self,show(((1:Int):Rat)/((n:Int):Rat))=fr1 (n:Int) from rfl,(fl_fr xq).2] at h9;exact h9) (by have h8:=(AtF.start (n:=n) (w:=k) xq).bd xq;have h7:=(AtF.start (n:=n) (w:=k) xq).ab;have h6:=(AtF.start (n:=n) (w:=k) xq).p0;omega) (by have h8:=(AtF.start (n:=n) (w:=k) xq).bd xq;have h7:=(AtF.start (n:=n) (w:=k) xq).ab;have h6:=(AtF.start (n:=n) (w:=k) xq).p0;omega) hk),(by have h9:=(cF.ext (cv.t (cw.t (b7.t (b4.t (bv.t (ct.t (bs.t (cA.t (bx.t (bt.t (be.t (ba.t (a9.t (bz.t (aV.t (aY.t (aP.t (aS.t (aJ.t aW.ext))))))))))))))))))));rw[lo_self,show((0:Int):Rat)=Nt.gr k 0 from(gr_zero k).symm] at h9;exact RatN.more h9 xq),(by have h9:=(dk.ext (cv.t (cw.t (b7.t (b4.t (bv.t (ct.t (bs.t (cA.t (bx.t (bt.t (be.t (ba.t (a9.t (bz.t (aV.t (aY.t (aP.t (aS.t (aJ.t aW.ext))))))))))))))))))));rw[hi_self,show((0:Int):Rat)=Nt.gr k 0 from(gr_zero k).symm] at h9;exact RatN.more h9 xq)⟩ ?_)))));rintro cz _ u97 ⟨j,x1,x2,y1,y2,a,b,cc,dd,db,hI,rfl,a6,f0,f1,f2,f3⟩;have hjw:=hI.kw;have hbd:=hI.bd xq;have hab:=hI.ab;have hcd:=hI.cd;have hp0:=hI.p0;have hp1:=hI.p1
 refine zzd (zzs (zzd (zzy [0,0,2,6,14,0,32,96,254,510,1023,0,4095] [(0,[]),(1,[]),(2,[]),(3,[]),(5,[]),(6,[]),(7,[]),(11,[]),(4,[]),(8,[]),(9,[]),(10,[]),(12,[])] xj xj (zzh 37 (.v (.agg #[.bool x1.s,x1.m.v,x1.d.v,.bool x2.s,x2.m.v,x2.d.v])) ty45 zze (zza 38 (zI j) (qwi 39 ((2:Int)*(j:Int)) (2*j:Nat) xk (qwi 40 (((2*j:Nat):Int)+1) (((2*j)+1:Nat):Int) xk (zza 42 (zI j) (qwi 43 ((2:Int)*(j:Int)) (2*j:Nat) xk (qwi 44 (((2*j:Nat):Int)+1) (((2*j)+1:Nat):Int) xk (zzj 10 ⟨45,zw6⟩ ?_)))))))))));refine zzg 41 57 _ fun _ _ ao dw=>qym (k_rqFrac dw (a:=1) (b:=(((2*j)+1:Nat):Int)) xq xq xq xq) ?_;rintro _ c8 ah ⟨r99,rfl,ce⟩;refine zzg 45 57 _ fun _ _ af bN=>qym (k_rqFrac bN (a:=1) (b:=(((2*j)+1:Nat):Int)) xq xq xq xq) ?_;rintro _ de ag ⟨dc,rfl,ci⟩;refine zzg 46 37 _ fun _ _ ae b2=>qym (k_r4Make b2 (ce.ext xe).raw (ci.ext ae).raw xq) ?_;rintro _ dq ai ⟨dn,dh,rfl,cn,b8⟩;refine zzg 47 60 _ fun _ _ ad bM=>qym (k_r4Mul bM (f0.ext xe).raw (f1.ext xe).raw (cn.ext ad).raw (b8.ext ad).raw xq xq) ?_;rintro _ bg aj ⟨ar,ak,rfl,bZ,bB⟩;refine zzi ⟨45,ar.cs++ak.cs⟩ ty45 ?_;refine zzb (zzd (zzd ?_));have aX:RatN bg ar (Nt.gr k a*(fr1 ((2*j+1:Nat):Int))) (40+3+1):=zRc bZ ((at_t hab xq).1);have aq:RatN bg ak (Nt.gr k b*(fr1 ((2*j+1:Nat):Int))) (40+3+1):=zRc bB ((at_t hab xq).2);refine zzf (zza 48 (.adr 10 3) (zzh 49 (.v (ak.v)) ty35 zze (zzh 50 (.v (bu.v)) ty35 zze (zzg 51 12 _ fun _ _ aa bK=>qym (k_rqCompare bK (aq.ext aa).raw (dD.ext xe).raw xq xq) ?_))));rintro _ dt ac rfl;refine zza 52 (zB (decide ((cmpQ (Nt.gr k b*(fr1 ((2*j+1:Nat):Int))) (((1:Int):Rat)/(((2^k:Nat):Int):Rat)))≤0))) (zzb (zzt (b:=decide ((cmpQ (Nt.gr k b*(fr1 ((2*j+1:Nat):Int))) (((1:Int):Rat)/(((2^k:Nat):Int):Rat)))≤0)) xj (fun al=>?_) (fun al=>?_)))
 ·have qhb132:=qyt al;refine zzd (zzy [0,0,2,6,0,16,62,127,0,511,1023] [(0,[]),(1,[]),(2,[]),(4,[]),(5,[]),(8,[]),(3,[]),(6,[]),(7,[]),(9,[]),(10,[])] xj xj (zzh 53 (.v (.agg #[.bool y1.s,y1.m.v,y1.d.v,.bool y2.s,y2.m.v,y2.d.v])) ty45 zze (zza 54 (.adr 10 3) (zzh 55 (.v (ak.v)) ty35 zze (zza 57 (.adr 10 3) (zzh 58 (.v (ak.v)) ty35 zze (zza 61 (zI k) (zzg 56 62 _ fun _ _ aR bI=>qym (k_rqNeg bI (aq.ext xe).raw xq) ?_))))))));rintro _ cS a5 ⟨dA,rfl,bF⟩;refine zzg 59 37 _ fun _ _ aT bR=>qym (k_r4Make bR (bF.ext aT).raw (aq.ext xe).raw xq) ?_;rintro _ cT bq ⟨cY,cN,rfl,bE,bV⟩;refine zzg 60 81 _ fun _ _ aK bH=>qym (k_r4Add bH (f2.ext xe).raw (f3.ext xe).raw (bE.ext aK).raw (bV.ext aK).raw xq xq) ?_;rintro _ c9 c7 ⟨dG,cX,rfl,cg,bY⟩;refine zzg 62 124 _ fun _ _ bm bP=>qym (k_wide (k:=k) bP (cg.ext bm).raw (bY.ext bm).raw xq xq) ?_;rintro _ cJ dx ⟨aG,aH,rfl,ch,ca⟩;refine zzi ⟨45,aG.cs++aH.cs⟩ ty45 ?_;refine zzb (zzn (zzv (zyt (zzv (zys (zyt (ret0 [.agg #[.bool aG.s,aG.m.v,aG.d.v,.bool aH.s,aH.m.v,aH.d.v]] ⟨zzq ty45 zze,trivial⟩ fun di bf=>?_)))))));have hle:b≤((2*j+1:Nat):Int):=by have h9:=al;rw[show(((1:Int):Rat)/(((2^k:Nat):Int):Rat))=Nt.gr k 1 from rfl,at_end xq] at h9;exact qyt h9
  have ho:=hI.out xq hle;have hob:=atR_bd ho xq;refine⟨aG,aH,_,_,rfl,RatN.limG (z:=(cc-cdiv b ((2*j+1:Nat):Int))) (K:=((40+(40+3+1)+2)+70)) ?_ xq xq hk,RatN.limG (z:=(dd+cdiv b ((2*j+1:Nat):Int))) (K:=((40+(40+3+1)+2)+70)) ?_ xq xq hk,ho⟩
  ·have h9:=(ch.ext bf)
   rw[(at_o xq hcd xq).1] at h9;exact h9
  have h9:=(ca.ext bf)
  rw[(at_o xq hcd xq).2] at h9;exact h9
 have qhb132:=qyf al;refine zzr (zzo ?_);refine zzd (sq9 (zza 63 (zI j) (zza 64 (zI (Int.tmod (j:Int) 2)) (zza 65 (zB ((Int.tmod (j:Int) 2)==0)) (zzb (zzt (b:=(Int.tmod (j:Int) 2)==0) xj (fun aD=>?_) (fun aD=>?_)))))))
 ·have aw:Int.tmod (j:Int) 2=(j:Int)%2:=Int.tmod_eq_emod_of_nonneg xq;have ap :  j%2=0:=by have h9:=aD;rw[aw] at h9;simp at h9;omega
  refine zzf (zzh 66 (.v (.agg #[.bool y1.s,y1.m.v,y1.d.v,.bool y2.s,y2.m.v,y2.d.v])) ty45 zze (zzh 67 (.v (.agg #[.bool ar.s,ar.m.v,ar.d.v,.bool ak.s,ak.m.v,ak.d.v])) ty45 zze (zzg 68 81 _ fun _ _ an b1=>qym (k_r4Add b1 (f2.ext xe).raw (f3.ext xe).raw (aX.ext xe).raw (aq.ext xe).raw xq xq) ?_)));rintro _ c5 aA ⟨aN,aU,rfl,b0,bU⟩;refine zzi ⟨45,aN.cs++aU.cs⟩ ty45 ?_;refine zzb (sq9 (zzh 72 (.v (.agg #[.bool aN.s,aN.m.v,aN.d.v,.bool aU.s,aU.m.v,aU.d.v])) ty45 zze (zza 73 (zI k) (zzg 74 124 _ fun _ _ ax bG=>qym (k_wide (k:=k) bG (b0.ext ax).raw (bU.ext ax).raw xq xq) ?_))));rintro _ bo aF ⟨a1,a7,rfl,b5,cm⟩;refine zzi ⟨45,a1.cs++a7.cs⟩ ty45 ?_;refine zzb ?_;have bb:RatN bo a1 (Nt.gr k (cc+a/((2*j+1:Nat):Int))) ((40+(40+3+1)+2)+70):=zRc b5 (by rw[(at_a (D:=((2*j+1:Nat):Int)) hab hcd xq).1]);have bj:RatN bo a7 (Nt.gr k (dd+cdiv b ((2*j+1:Nat):Int))) ((40+(40+3+1)+2)+70):=zRc cm (by rw[(at_a (D:=((2*j+1:Nat):Int)) hab hcd xq).2]);refine zzf (zzh 75 (.v (.agg #[.bool x1.s,x1.m.v,x1.d.v,.bool x2.s,x2.m.v,x2.d.v])) ty45 zze (zzh 76 (.v (.agg #[.bool aO.s,aO.m.v,aO.d.v,.bool aQ.s,aQ.m.v,aQ.d.v])) ty45 zze (zzg 77 60 _ fun _ _ av bJ=>qym (k_r4Mul bJ (f0.ext xe).raw (f1.ext xe).raw (cx.ext xe).raw (cy.ext xe).raw xq xq) ?_)));rintro _ dB a4 ⟨cQ,cZ,rfl,cf,ck⟩;refine zza 78 (zI k) (zzg 79 124 _ fun _ _ aI cq=>qym (k_wide (k:=k) cq (cf.ext aI).raw (ck.ext aI).raw xq xq) ?_);rintro _ dm a3 ⟨bc,bl,rfl,bA,bW⟩;refine zzi ⟨45,bc.cs++bl.cs⟩ ty45 ?_;refine zzw ?_;refine zzo (zzf (zza 35 (zI j) (qwi 36 ((j:Int)+1) (j+1:Nat) xk (zza 9 (zI (j+1:Nat)) (zzw ?_)))));have hlt:((2*j+1:Nat):Int)<b:=by have h9:=al;rw[show(((1:Int):Rat)/(((2^k:Nat):Int):Rat))=Nt.gr k 1 from rfl,at_end xq] at h9;have h8:=qyf h9;omega
  have hgo:=hI.go hn hlt (.inl ⟨ap,rfl,rfl⟩);have hb9:=hgo.1.bd xq;have ha9:=hgo.1.ab;have hc9:=hgo.1.cd;have h09:=hgo.1.p0;have hm9:=hgo.2;refine⟨_,?_,_,by exact zzu _ _ _,j+1,bc,bl,a1,a7,(a/((n*n:Nat):Int)),(cdiv b ((n*n:Nat):Int)),(cc+a/((2*j+1:Nat):Int)),(dd+cdiv b ((2*j+1:Nat):Int)),rfl,hgo.1,rfl,(a6.t (ao.t (ah.t (af.t (ag.t (ae.t (ai.t (ad.t (aj.t (aa.t (ac.t (an.t (aA.t (ax.t (aF.t (av.t (a4.t (aI.t a3.ext)))))))))))))))))),(RatN.limG (by have h9:=bA;rw[show(((1:Int):Rat)/((((n*n:Nat):Int)):Rat))=fr1 ((n*n:Nat):Int) from rfl,(at_x hab xq).1] at h9;exact h9) xq xq hk),(RatN.limG (by have h9:=bW;rw[show(((1:Int):Rat)/((((n*n:Nat):Int)):Rat))=fr1 ((n*n:Nat):Int) from rfl,(at_x hab xq).2] at h9;exact h9) xq xq hk),(RatN.limG (bb.ext xe) xq xq hk),(RatN.limG (bj.ext xe) xq xq hk)⟩
  omega
 have aw:Int.tmod (j:Int) 2=(j:Int)%2:=Int.tmod_eq_emod_of_nonneg xq;have ap:¬j%2=0:=by have h9:=aD;rw[aw] at h9;simp at h9;omega
 refine zzf (zzh 69 (.v (.agg #[.bool y1.s,y1.m.v,y1.d.v,.bool y2.s,y2.m.v,y2.d.v])) ty45 zze (zzh 70 (.v (.agg #[.bool ar.s,ar.m.v,ar.d.v,.bool ak.s,ak.m.v,ak.d.v])) ty45 zze (zzg 71 36 _ fun _ _ am bQ=>qym (k_r4Sub bQ (f2.ext xe).raw (f3.ext xe).raw (aX.ext xe).raw (aq.ext xe).raw xq xq) ?_)));rintro _ cB aB ⟨aM,aL,rfl,bD,cl⟩;refine zzi ⟨45,aM.cs++aL.cs⟩ ty45 ?_;refine zzb (sq9 (zzh 72 (.v (.agg #[.bool aM.s,aM.m.v,aM.d.v,.bool aL.s,aL.m.v,aL.d.v])) ty45 zze (zza 73 (zI k) (zzg 74 124 _ fun _ _ au cr=>qym (k_wide (k:=k) cr (bD.ext au).raw (cl.ext au).raw xq xq) ?_))));rintro _ bi aE ⟨a2,a0,rfl,bX,bL⟩;refine zzi ⟨45,a2.cs++a0.cs⟩ ty45 ?_;refine zzb ?_;have bh:RatN bi a2 (Nt.gr k (cc-cdiv b ((2*j+1:Nat):Int))) ((40+(40+3+1)+2)+70):=zRc bX (by rw[(at_s (D:=((2*j+1:Nat):Int)) hab hcd xq).1]);have bp:RatN bi a0 (Nt.gr k (dd-a/((2*j+1:Nat):Int))) ((40+(40+3+1)+2)+70):=zRc bL (by rw[(at_s (D:=((2*j+1:Nat):Int)) hab hcd xq).2]);refine zzf (zzh 75 (.v (.agg #[.bool x1.s,x1.m.v,x1.d.v,.bool x2.s,x2.m.v,x2.d.v])) ty45 zze (zzh 76 (.v (.agg #[.bool aO.s,aO.m.v,aO.d.v,.bool aQ.s,aQ.m.v,aQ.d.v])) ty45 zze (zzg 77 60 _ fun _ _ ay bO=>qym (k_r4Mul bO (f0.ext xe).raw (f1.ext xe).raw (cx.ext xe).raw (cy.ext xe).raw xq xq) ?_)));rintro _ du aZ ⟨c1,dp,rfl,cj,b6⟩;refine zza 78 (zI k) (zzg 79 124 _ fun _ _ az bC=>qym (k_wide (k:=k) bC (cj.ext az).raw (b6.ext az).raw xq xq) ?_);rintro _ dE a8 ⟨bk,bn,rfl,cp,b9⟩;refine zzi ⟨45,bk.cs++bn.cs⟩ ty45 ?_;refine zzw ?_;refine zzo (zzf (zza 35 (zI j) (qwi 36 ((j:Int)+1) (j+1:Nat) xk (zza 9 (zI (j+1:Nat)) (zzw ?_)))));have hlt:((2*j+1:Nat):Int)<b:=by have h9:=al;rw[show(((1:Int):Rat)/(((2^k:Nat):Int):Rat))=Nt.gr k 1 from rfl,at_end xq] at h9;have h8:=qyf h9;omega
 have hgo:=hI.go hn hlt (.inr ⟨ap,rfl,rfl⟩);have hb9:=hgo.1.bd xq;have ha9:=hgo.1.ab;have hc9:=hgo.1.cd;have h09:=hgo.1.p0;have hm9:=hgo.2;refine⟨_,?_,_,by exact zzu _ _ _,j+1,bk,bn,a2,a0,(a/((n*n:Nat):Int)),(cdiv b ((n*n:Nat):Int)),(cc-cdiv b ((2*j+1:Nat):Int)),(dd-a/((2*j+1:Nat):Int)),rfl,hgo.1,rfl,(a6.t (ao.t (ah.t (af.t (ag.t (ae.t (ai.t (ad.t (aj.t (aa.t (ac.t (am.t (aB.t (au.t (aE.t (ay.t (aZ.t (az.t a8.ext)))))))))))))))))),(RatN.limG (by have h9:=cp;rw[show(((1:Int):Rat)/((((n*n:Nat):Int)):Rat))=fr1 ((n*n:Nat):Int) from rfl,(at_x hab xq).1] at h9;exact h9) xq xq hk),(RatN.limG (by have h9:=b9;rw[show(((1:Int):Rat)/((((n*n:Nat):Int)):Rat))=fr1 ((n*n:Nat):Int) from rfl,(at_x hab xq).2] at h9;exact h9) xq xq hk),(RatN.limG (bh.ext xe) xq xq hk),(RatN.limG (bp.ext xe) xq xq hk)⟩
 omega
end Go.Proofs.YtcpnfblekhgmgaaGreat
