/- The law CascadeButterworth, walked. Printed by wip/sym/g_bwe.py. -/
import Derived.Test.YtedobdigeeflcaaGreatBwhL
set_option linter.unusedVariables false
namespace Go.Proofs.YtedobdigeeflcaaGreat
open Nt
open Go.RowKit
theorem k_bwWithin {u w:World} {n m:Int} (d:Dat u w) (hm:1≤m) (hm2:m≤4611686018427387904) (hn0 : -9223372036854775808≤n) (hn1:n≤9223372036854775807):qyc 4 #[.int .i64 n,.int .i64 m] w (Post u w fun v _=>∃z:Nat,v=.int .i64 (z:Int)∧(z:Int)<m) :=
 qym (k_within d hm hm2 hn0 hn1) fun v u' _ h=>by
  have h1:=Int.emod_nonneg n (show m≠0 by omega)
  have h2:=Int.emod_lt_of_pos n (show 0<m by omega)
  exact ⟨(n%m).toNat,by rw[h,Int.toNat_of_nonneg h1],by omega⟩
theorem bw_getD {l:List Int} (hb:∀z∈l,-9223372036854775808≤z∧z≤9223372036854775807) (i:Nat) : -9223372036854775808≤l.getD i 0∧l.getD i 0≤9223372036854775807:=by
 rw[qyg]
 rcases Nat.lt_or_ge i l.length with hi | hi
 ·rw[List.getElem?_eq_getElem hi];exact hb _ (List.getElem_mem hi)
 rw[List.getElem?_eq_none hi];exact ⟨by decide,by decide⟩
theorem k_bwAt {u w:World} {x:Sl} {l:List Int} {i:Nat} (d:Dat u w) (hx:SlR .i64 u x.a x.n x.c l) (hb:∀z∈l,-9223372036854775808≤z∧z≤9223372036854775807) (hi9:i≤1000000000):qyc 6 #[x.v,.int .i64 (i:Int)] w (Post u w fun v _=>v=.int .i64 (l.getD i 0)):=by
 have hlen:l.length=x.n:=hx.1
 refine zzm Tryz.func6 rfl Tryz.ntmps6 Tryz.results6 d ?_
 refine sq9 (zza 4 (zI 0) (zzb (zzd (sq9 (zza 5 (zI i) (zza 6 (zB (decide ((0:Int)≤(i:Int)))) (zyq 7 (x:=zB (decide ((0:Int)≤(i:Int)))) (zB true) (by rw[show (decide ((0:Int)≤(i:Int)))=true from decide_eq_true xq]) (zza 8 (zI i) ?_ (hw:=w1 2 true 7)))))))))
 refine zza 9 (.v (x.v)) ?_ (hw:=w1 2 true 7)
 refine zza 10 (zI x.n) ?_ (hw:=w1 2 true 7)
 refine zza 11 (zB (decide ((i:Int)<(x.n:Int)))) ?_ (hw:=w1 2 true 7)
 refine zza 12 (zB (decide ((i:Int)<(x.n:Int)))) (zzb (zzu (b:=decide ((i:Int)<(x.n:Int))) xj (fun aa=>?_) (fun aa=>?_)))
 ·have qhb12:=qyt aa
  refine sq9 (zza 13 (.v (x.v)) (zza 14 (zI i) ?_))
  have hl13:=(hx).1
  obtain ⟨b13,ad,ab,ac⟩:=ints_at hx (i:=i) xq
  have hz13:=ints_bd hb xq i
  refine zya 15 (ad+i*1) (n:=x.n) (off:=ad) (sz:=1) (i:=(i:Int)) xq ab xq xq sl22 (zyl 16 (.int .i64 (l.getD i 0)) ac ty3 (zza 4 (zI (l.getD i 0)) (zzb (zzo (zzw (ret0 [.int .i64 (l.getD i 0)] ⟨zzq,trivial⟩ fun u14 e15=>?_))))))
  rfl
 have qhb12:=qyf aa
 refine zzs (zzp ?_)
 refine sq9 (zza 4 (zI 0) (zzb (zzo (ret0 [.int .i64 0] ⟨zzq,trivial⟩ fun u16 e17=>?_))))
 show Value.int _ _=Value.int _ _
 rw[show l.getD i 0=0 by rw[qyg,List.getElem?_eq_none xq];rfl]
theorem k_csButterO {u w:World} {re r:RL} {e q:Rat} {K n:Nat} (d:Dat u w) (he:RatV u re e K) (hr:RatV u r q K) (he0:((-1:Int):Rat)<e) (he1:e<((1:Int):Rat)) (hq:0<q) (hK:K≤20) (h8:n≤8) (hq4:1 / 4≤q):qyc 7 #[.int .i64 (n:Int),re.v,r.v,.int .i64 40] w (Post u w fun v u'=>(n=0∧v=.tuple #[qyn,.int .i64 12])∨(1≤n∧∃ (x:Sl) (Ss:List Rt),v=.tuple #[x.v,.int .i64 0]∧MutS 2 45 u.heap.size u' x (rvs Ss)∧RtN u' Ss (bwSs n (((((1:Int):Rat)+e) / (((1:Int):Rat) - e))*(Nt.gr 40 (rtN q n 40:Int)))) 150000)):=by
 rcases Nat.eq_zero_or_pos n with rfl | h1
 ·exact qym (k_csButter0 d) fun v u' _ h=>.inl ⟨rfl,h⟩
 exact qym (k_csButter d he hr he0 he1 hq hK h1 h8 hq4) fun v u' _ h=>.inr ⟨h1,h⟩
theorem k_rcsButterO {u w:World} {re r:RL} {e q:Rat} {K n D A:Nat} (d:Dat u w) (he:RatV u re e K) (hr:RatV u r q K) (he0:((-1:Int):Rat)<e) (he1:e<((1:Int):Rat)) (hq:0<q) (hK:K≤20) (h8:n≤8) (hq4:1 / 4≤q) (hD0:0<D) (hc:Wh (((((1:Int):Rat)+e) / (((1:Int):Rat) - e))*((D:Int):Rat)) A) (hD:D≤2^A) (hA:A≤1000):qyc 8 #[.int .i64 (n:Int),re.v,r.v,.int .i64 40] w (Post u w fun v u'=>(n=0∧v=.tuple #[qyn,.int .i64 12])∨(1≤n∧∃ (x:Sl) (Ss:List Rt),v=.tuple #[x.v,.int .i64 0]∧MutS 2 45 u.heap.size u' x (rvs Ss)∧RtN u' Ss (bwSs n (((((1:Int):Rat)+e) / (((1:Int):Rat) - e))*(Nt.gr 40 (rtN q n 40:Int)))) 150000)):=by
 rcases Nat.eq_zero_or_pos n with rfl | h1
 ·exact qym (k_rcsButter0 d) fun v u' _ h=>.inl ⟨rfl,h⟩
 exact qym (k_rcsButter d he hr he0 he1 hq hK h1 h8 hq4 hD0 hc hD hA) fun v u' _ h=>.inr ⟨h1,h⟩
theorem Nt.lmS {a b S K:Nat} (h:a≤b) (hK:b*S+2≤K):a*S+2≤K:=by have h9:=Nat.mul_le_mul_right S h;omega
theorem Nt.lmT {a b S K:Nat} (h:a≤b) (hK:b*S≤K):a*S≤K:=Nat.le_trans (Nat.mul_le_mul_right S h) hK
theorem k_bwSame {u w:World} {x y:Sl} {l:List Rat} {K:Nat} (d:Dat u w) (hx:PolN u x l K) (hy:PolN u y l K) (hK:K≤1000000) (hl:l.length≤1000):qyc 12 #[x.v,y.v] w (Post u w fun v _=>v=.bool true) :=
 qym (k_r5Same d hx.raw hy.raw xq xq xq xq) fun v u' _ h=>by rw[h,decide_eq_true rfl]
theorem Nt.cmp_nf {x y:Rat} (h:x=y):(cmpQ x y != (0:Int))=false:=by subst h;unfold bne;rw[cmpQ_eq,decide_eq_true rfl];rfl
theorem Nt.cmp_et {x y:Rat} (h:x=y):(cmpQ x y==(0:Int))=true:=by rw[cmpQ_eq];exact decide_eq_true h
theorem Nt.bwDen_len {n:Nat} {c q:Rat} (h:n≤8):(bwDen n c q).length≤17:=add_lenQ (b:=17) (a:=17) (np_len bp_len h) (map_lenQ (np_len (map_lenQ bm_len) h))
theorem Nt.fin_ok {n:Nat} (h1:1≤n) (h8:n≤8) {q c x:Rat} (hq:1 / 4≤q) (hc:0≤c) (hx0 : -1<x) (hx1:x≤1):decide (cmpQ (absQ (pdD x (bwSs n (c*Nt.gr 40 (rtN q n 40:Int))) - Pol.evL (bwDen n c q) x)*((1073741824:Int):Rat)) (Pol.evL (bwDen n c q) x)≤(0:Int))=true:=by
 rw[cmpQ_le];exact decide_eq_true (bw_law h1 h8 hq hc hx0 hx1)
set_option maxHeartbeats 4000000 in
theorem w_csButter {u w:World} {nz:Int} {x y z:Sl} {l m o:List Int} (d:Dat u w) (hx:SlR .i64 u x.a x.n x.c l) (hb:∀z∈l,-9223372036854775808≤z∧z≤9223372036854775807) (hy:SlR .i64 u y.a y.n y.c m) (hbm:∀z∈m,-9223372036854775808≤z∧z≤9223372036854775807) (hz:SlR .i64 u z.a z.n z.c o) (hbo:∀z∈o,-9223372036854775808≤z∧z≤9223372036854775807) (hn0 : -9223372036854775808≤nz) (hn1:nz≤9223372036854775807):qyc 3 #[.int .i64 nz,x.v,y.v,z.v] w (Post u w fun v _=>v=.bool true):=by
 refine zzm Tryz.func3 rfl Tryz.ntmps3 Tryz.results3 d ?_
 refine sq9 (zza 8 (zB false) (zzb (sq9 (zza 26 (zI nz) (zzg 27 4 _ fun _ _ bH cX=>qym ((show Calls _ _ #[.int .i64 nz,.int .i64 9] _ _ from k_bwWithin (n:=nz) (m:=9) cX yq yq xq xq)) ?_)))))
 rintro _ u12 b9 ⟨n,rfl,hn⟩
 refine zza 0 (zI n) (zzb (sq9 (zza 28 (.v (x.v)) (zzg 29 6 _ fun _ _ cd di=>qym (k_bwAt (x:=x) (i:=0) di (hx.ext (bH.t (b9.t cd))) hb yq) ?_))))
 rintro _ u16 cz rfl
 have hz19:=bw_getD hb 0
 refine zzg 30 4 _ fun _ _ cM dA=>qym ((show Calls _ _ #[.int .i64 (l.getD 0 0),.int .i64 15] _ _ from k_bwWithin (n:=(l.getD 0 0)) (m:=15) dA yq yq xq xq)) ?_
 rintro _ u21 cG ⟨J,rfl,hJ⟩
 refine zyq 31 (x:=zI (IntKind.i64.wrap ((J:Int) - 7))) (zI ((J:Int) - 7)) (by rw[show (IntKind.i64.wrap ((J:Int) - 7))=((J:Int) - 7) from (IntWalk.i64_in _ xq)]) (zzg 32 5 _ fun _ _ cN dw=>qym (k_rqFrac dw (a:=(J:Int) - 7) (b:=8) xq xq xq xq) ?_)
 rintro _ u27 cL ⟨a8,rfl,dJ⟩
 refine zza 33 (.v (y.v)) (zzg 34 6 _ fun _ _ ci dB=>qym (k_bwAt (x:=y) (i:=0) dB (hy.ext (bH.t (b9.t (cd.t (cz.t (cM.t (cG.t (cN.t (cL.t ci))))))))) hbm yq) ?_)
 rintro _ u31 cA rfl
 have hz34:=bw_getD hbm 0
 refine zzg 35 4 _ fun _ _ cy dk=>qym ((show Calls _ _ #[.int .i64 (m.getD 0 0),.int .i64 15] _ _ from k_bwWithin (n:=(m.getD 0 0)) (m:=15) dk yq yq xq xq)) ?_
 rintro _ u36 cx ⟨I,rfl,hI⟩
 refine zyq 36 (x:=zI (IntKind.i64.wrap ((1:Int)+(I:Int)))) (zI (1+(I:Int))) (by rw[show (IntKind.i64.wrap ((1:Int)+(I:Int)))=(1+(I:Int)) from (IntWalk.i64_in _ xq)]) (zzg 37 5 _ fun _ _ cE dv=>qym (k_rqFrac dv (a:=1+(I:Int)) (b:=4) xq xq xq xq) ?_)
 rintro _ u42 cJ ⟨a3,rfl,cR⟩
 refine zzk 9 ⟨28,zw3⟩ (zzk 10 ⟨28,zw3⟩ (zzj ⟨28,a8.cs⟩ ty28 ?_))
 refine zzj ⟨28,a3.cs⟩ ty28 ?_
 refine zzb (zzd ?_)
 have he_e:=(dJ.ext (ci.t (cA.t (cy.t (cx.t (cE.t cJ.ext))))))
 have hh_e:=edge_ok (j:=J) xq
 generalize hg_e:((((J:Int) - 7:Int):Rat) / ((8:Int):Rat))=e at he_e hh_e
 obtain ⟨bw,be,hc⟩:=hh_e
 have he_q:=cR
 have hh_q:=rip_ok (i:=I) xq
 generalize hg_q:(((1+(I:Int):Int):Rat) / ((4:Int):Rat))=q at he_q hh_q
 obtain ⟨hq,bF⟩:=hh_q
 refine zzf (zza 39 (zI n) (zzi 40 (.v (a8.v)) ty28 zze (zzi 41 (.v (a3.v)) ty28 zze (zzg 42 7 _ fun _ _ aP dm=>qym (k_csButterO (n:=n) dm (he_e.ext aP).raw (he_q.ext aP).raw bw be hq yq xq bF) ?_))))
 rintro _ u46 a7 (⟨hN0,rfl⟩ | ⟨h1,x9,bc,rfl,ba,aC⟩)
 ·skip
  refine zza 38 (.v (.tuple #[qyn,.int .i64 12])) (zza 43 (.v (qyn)) (zza 44 (zI 12) (zza 11 (.v (qyn)) (zza 12 (zI 12) (zzb (sq9 (zza 46 (zI n) (zzi 47 (.v (a8.v)) ty28 zze (zzi 48 (.v (a3.v)) ty28 zze (zzg 49 8 _ fun _ _ cD db=>qym (qym (k_rcsButterO (n:=n) (D:=15 - J) (A:=14) db (he_e.ext (aP.t (a7.t cD))).raw (he_q.ext (aP.t (a7.t cD))).raw bw be hq yq xq bF (show 0<15 - J by omega) hc (Nat.le_trans (Nat.sub_le _ _) yq) yq) (fun v u9 _ h=>h.elim (fun h=>h.2) (fun h=>absurd h.1 xq))) ?_))))))))))
  rintro _ u50 g51 rfl
  refine zza 45 (.v (.tuple #[qyn,.int .i64 12])) (zza 50 (.v (qyn)) (zza 51 (zI 12) (zza 13 (.v (qyn)) (zza 14 (zI 12) (zzc 187 [(0,zI n),(3,.v (z.v)),(9,.adr 9 0),(10,.adr 10 0),(11,.v (qyn)),(12,zI 12),(13,.v (qyn)),(14,zI 12)] [(9,⟨28,a8.cs⟩),(10,⟨28,a3.cs⟩)] (zzd (sq9 (zza 52 (zI 12) (zza 53 (zI 12) (zza 54 (zB false) (zza 55 (zB false) ?_)))))))))))
  refine zza 56 (.v (qyn)) ?_ (hw:=w1 3 false 55)
  refine zza 57 (zI 0) ?_ (hw:=w1 3 false 55)
  refine zza 58 (.v (qyn)) ?_ (hw:=w1 3 false 55)
  refine zza 59 (zI 0) ?_ (hw:=w1 3 false 55)
  refine zza 60 (zB false) ?_ (hw:=w1 3 false 55)
  refine zza 61 (zB false) (zzb (zys xj (zzs (zzp ?_))))
  refine zzd (sq9 (zza 62 (zI 12) (zza 63 (zB true) (zzb (zyr xj (sq9 (zzg 64 9 _ fun _ _ _ dx=>qym (k_known24 dx) ?_)))))))
  rintro _ u54 g55 rfl
  refine zza 65 (zB true) (zza 66 (zI n) ?_ (hw:=w1 1 true 65))
  refine zza 67 (zB (decide ((n:Int)<1))) ?_ (hw:=w1 1 true 65)
  refine zza 68 (zB (decide ((n:Int)<1))) (zza 8 (zB (decide ((n:Int)<1))) (zzb (zzo (zzw (ret0 [.bool (decide ((n:Int)<1))] ⟨zzq,trivial⟩ fun u57 e58=>?_)))))
  show Value.bool _=Value.bool true
  rw[show (decide ((n:Int)<1))=true from (decide_eq_true xq)]
 have cP:x9.n=n / 2+n%2:=by have h9:=ba.1;rw[rvs_len,aC.1,bwSs_len] at h9;omega
 refine zza 38 (.v (.tuple #[x9.v,.int .i64 0])) (zza 43 (.v (x9.v)) (zza 44 (zI 0) (zza 11 (.v (x9.v)) (zza 12 (zI 0) (zzb (sq9 (zza 46 (zI n) (zzi 47 (.v (a8.v)) ty28 zze (zzi 48 (.v (a3.v)) ty28 zze (zzg 49 8 _ fun _ _ aq dj=>qym (qym (k_rcsButterO (n:=n) (D:=15 - J) (A:=14) dj (he_e.ext (aP.t (a7.t aq))).raw (he_q.ext (aP.t (a7.t aq))).raw bw be hq yq xq bF (show 0<15 - J by omega) hc (Nat.le_trans (Nat.sub_le _ _) yq) yq) (fun v u9 _ h=>h.elim (fun h=>absurd h.1 xq) (fun h=>h.2))) ?_))))))))))
 rintro _ u60 aA ⟨y9,cI,rfl,bZ,br⟩
 have dT:y9.n=n / 2+n%2:=by have h9:=bZ.1;rw[rvs_len,br.1,bwSs_len] at h9;omega
 refine zza 45 (.v (.tuple #[y9.v,.int .i64 0])) (zza 50 (.v (y9.v)) (zza 51 (zI 0) (zza 13 (.v (y9.v)) (zza 14 (zI 0) (zzc 187 [(0,zI n),(3,.v (z.v)),(9,.adr 9 0),(10,.adr 10 0),(11,.v (x9.v)),(12,zI 0),(13,.v (y9.v)),(14,zI 0)] [(9,⟨28,a8.cs⟩),(10,⟨28,a3.cs⟩)] (zzd (sq9 (zza 52 (zI 0) (zza 53 (zI 0) (zza 54 (zB false) (zza 55 (zB false) ?_)))))))))))
 refine zza 56 (.v (x9.v)) ?_ (hw:=w1 3 false 55)
 refine zza 57 (zI x9.n) ?_ (hw:=w1 3 false 55)
 refine zza 58 (.v (y9.v)) ?_ (hw:=w1 3 false 55)
 refine zza 59 (zI y9.n) ?_ (hw:=w1 3 false 55)
 refine zza 60 (zB ((x9.n:Int) != (y9.n:Int))) ?_ (hw:=w1 3 false 55)
 refine zza 61 (zB ((x9.n:Int) != (y9.n:Int))) (zzb (zzu (b:=(x9.n:Int) != (y9.n:Int)) xj (fun hb=>?_) (fun hb=>?_)))
 ·exact absurd hb (by rw[show ((x9.n:Int) != (y9.n:Int))=false from (by rw[cP,dT];exact bne_self_eq_false _)];decide)
 clear hb
 refine zzs (zzp ?_)
 refine zzd (sq9 (zza 62 (zI 0) (zza 63 (zB false) (zzb (zys xj (zzs (zzp ?_)))))))
 refine sq9 (zza 70 (zI n) (zzi 71 (.v (a8.v)) ty28 zze (zzi 72 (.v (a3.v)) ty28 zze (zzg 73 10 _ fun _ _ al cU=>qym (k_bcButter (n:=n) (D:=15 - J) (A:=14) cU (he_e.ext (aP.t (a7.t (aq.t (aA.t al))))).raw (he_q.ext (aP.t (a7.t (aq.t (aA.t al))))).raw bw be hq yq h1 xq (show 0<15 - J by omega) hc (Nat.le_trans (Nat.sub_le _ _) yq) yq) ?_))))
 rintro _ u64 ap ⟨g9,p9,z9,rfl,c0⟩
 have dG:PolN _ z9 (bwDen n ((((1:Int):Rat)+e) / (((1:Int):Rat) - e)) q) 1000:=c0
 refine zza 69 (.v (.tuple #[.agg #[.bool g9.s,g9.m.v,g9.d.v,p9.v,.int .i64 n,z9.v],.int .i64 0])) (zza 74 (.v (.agg #[.bool g9.s,g9.m.v,g9.d.v,p9.v,.int .i64 n,z9.v])) (zza 75 (zI 0) (zzk 15 ⟨39,[.bool false,qyn,qyn,qyn,.int .i64 0,qyn]⟩ (zzj ⟨39,g9.cs++[p9.v,.int .i64 n,z9.v]⟩ ty39 ?_))))
 refine zza 16 (zI 0) (zzb (sq9 (zza 76 (.v (z.v)) (zzg 77 6 _ fun _ _ ao dd=>qym (k_bwAt (x:=z) (i:=0) dd (hz.ext (bH.t (b9.t (cd.t (cz.t (cM.t (cG.t (cN.t (cL.t (ci.t (cA.t (cy.t (cx.t (cE.t (cJ.t (aP.t (a7.t (aq.t (aA.t (al.t (ap.t ao))))))))))))))))))))) hbo yq) ?_))))
 rintro _ u68 ar rfl
 have hz71:=bw_getD hbo 0
 refine zzg 78 4 _ fun _ _ av dH=>qym ((show Calls _ _ #[.int .i64 (o.getD 0 0),.int .i64 31] _ _ from k_bwWithin (n:=(o.getD 0 0)) (m:=31) dH yq yq xq xq)) ?_
 rintro _ u73 aw ⟨T,rfl,hT⟩
 refine zyq 79 (x:=zI (IntKind.i64.wrap ((T:Int) - 15))) (zI ((T:Int) - 15)) (by rw[show (IntKind.i64.wrap ((T:Int) - 15))=((T:Int) - 15) from (IntWalk.i64_in _ xq)]) (zzg 80 5 _ fun _ _ au dM=>qym (k_rqFrac dM (a:=(T:Int) - 15) (b:=16) xq xq xq xq) ?_)
 rintro _ u79 ax ⟨aY,rfl,dF⟩
 refine zzk 17 ⟨28,zw3⟩ (zzj ⟨28,aY.cs⟩ ty28 ?_)
 refine zzb (zzd ?_)
 have he_xx:=dF
 have hh_xx:=at_ok (i:=T) xq
 generalize hg_xx:((((T:Int) - 15:Int):Rat) / ((16:Int):Rat))=xx at he_xx hh_xx
 obtain ⟨c3,cO⟩:=hh_xx
 refine zzf (zzg 81 11 _ fun _ _ ak de=>qym (k_rqOf de (z:=1) xq xq) ?_)
 rintro _ dO ah ⟨aB,rfl,bE⟩
 refine zzk 18 ⟨28,zw3⟩ (zzj ⟨28,aB.cs⟩ ty28 ?_)
 refine zzc 187 [(0,zI n),(11,.v (x9.v)),(13,.v (y9.v)),(15,.adr 15 0),(16,zI 0),(17,.adr 17 0),(18,.adr 18 0)] [(15,⟨39,g9.cs++[p9.v,.int .i64 n,z9.v]⟩),(17,⟨28,aY.cs⟩),(18,⟨28,aB.cs⟩)] (zzd (zzz [0,0,0,0,13,31] [(0,[]),(1,[]),(2,[]),(3,[]),(4,[18]),(5,[])] xj xj (zzi 82 (.v (aB.v)) ty28 zze (zzi 83 (.v (aB.v)) ty28 zze (zzk 19 ⟨28,zw3⟩ (zzk 20 ⟨28,zw3⟩ (zzj ⟨28,aB.cs⟩ ty28 ?_)))))))
 refine zzj ⟨28,aB.cs⟩ ty28 ?_
 refine zzb (zzd (sq9 (zza 21 (zI 0) (zzb (zzt (zyn (I:=fun cK S' u'=>∃ (k:Nat) (rn:RL) (rd:RL),(cK=x9.n - k)∧(k≤x9.n)∧(S'=St.of 187 [(0,zI n),(11,.v (x9.v)),(13,.v (y9.v)),(15,.adr 15 0),(16,zI 0),(17,.adr 17 0),(18,.adr 18 0),(19,.adr 19 0),(20,.adr 20 0),(21,zI k)] [(15,⟨39,g9.cs++[p9.v,.int .i64 n,z9.v]⟩),(17,⟨28,aY.cs⟩),(18,⟨28,aB.cs⟩),(19,⟨28,rn.cs⟩),(20,⟨28,rd.cs⟩)])∧(Ext dO u')∧(RatN u' rn (pdN xx ((bwSs n (((((1:Int):Rat)+e) / (((1:Int):Rat) - e))*(Nt.gr 40 (rtN q n 40:Int)))).take k)) (k*450250+5))∧(RatN u' rd (pdD xx ((bwSs n (((((1:Int):Rat)+e) / (((1:Int):Rat) - e))*(Nt.gr 40 (rtN q n 40:Int)))).take k)) (k*450250+5))) (fun m S u1 u2 e h=>by obtain ⟨k,rn,rd,hm,p0,hS,hE,f0,f1⟩:=h;exact ⟨k,rn,rd,hm,p0,hS,hE.trans e,f0.ext e,f1.ext e⟩) _ yk ⟨0,aB,aB,rfl,Nat.zero_le _,rfl,(Ext.refl _),(RatN.more (K:=2) bE xq),(RatN.more (K:=2) bE xq)⟩ ?_))))))
 rintro cK _ u88 ⟨k,rn,rd,dr,hk,rfl,ae,b0,b6⟩
 refine zzd (sq9 (zza 84 (zI k) (zza 85 (.v (x9.v)) (zza 86 (zI x9.n) (zza 87 (zB (decide ((k:Int)<(x9.n:Int)))) (zzb (zzu (b:=decide ((k:Int)<(x9.n:Int))) xj (fun a4=>?_) (fun a4=>?_))))))))
 ·have qhb89:=qyt a4
  refine zzs (zzp ?_)
  refine zzd (zzt (zzd (zzd (zzz [0,0,3,7,15,0,0,96,224,480,1023,2047,4095,8191,8191,32767,65535,131071,8191,8191,794623,1843199,3940351,8388607,16777215,33554431,67108863,134217727,134217727,536870911,1073741823,2147483647,134217727,8589934591,134217727,134217727,51673825279,120393302015,257832255487,134217727,1099511627775,2199023255551,4398046511103,8796093022207] [(0,[]),(1,[]),(2,[]),(3,[]),(4,[]),(5,[]),(6,[]),(7,[]),(8,[]),(9,[]),(10,[]),(11,[]),(12,[]),(13,[]),(14,[]),(15,[]),(16,[]),(17,[]),(18,[]),(19,[]),(20,[]),(21,[]),(22,[]),(23,[]),(24,[]),(25,[]),(26,[]),(27,[]),(28,[]),(29,[]),(30,[]),(31,[]),(32,[]),(34,[]),(35,[]),(36,[]),(37,[]),(38,[]),(39,[]),(33,[]),(40,[]),(41,[]),(42,[]),(43,[])] xj xj (zza 90 (.v (x9.v)) (zza 91 (zI k) ?_))))))
  obtain ⟨dI,b4,b5,cV⟩:=MutS.at (i:=k) (ba.ext (aq.t (aA.t (al.t (ap.t (ao.t (ar.t (av.t (aw.t (au.t (ax.t (ak.t (ah.t ae))))))))))))) (by rw[aC.1];exact by rw[bwSs_len];omega)
  refine zya 92 (0+k*2) (n:=x9.n) (off:=0) (sz:=2) (i:=(k:Int)) xq b4 xq xq sl31 (zza 93 (.v (.pointer (some ⟨dI,0+k*2,none⟩))) ?_)
  obtain ⟨dc,bj⟩:∃y:Sl,(bc.getD k rt0).1=y:=⟨_,rfl⟩
  have hq91:=b5;rw[bj] at hq91
  have hp91:=((aC.ext (aq.t (aA.t (al.t (ap.t (ao.t (ar.t (av.t (aw.t (au.t (ax.t (ak.t (ah.t ae))))))))))))).2 k yz).1;rw[bj] at hp91
  refine zyl 94 (dc.v) hq91 ty37 (zza 95 (.v (y9.v)) (zza 96 (zI k) ?_))
  obtain ⟨dS,bR,bJ,cZ⟩:=MutS.at (i:=k) (bZ.ext (al.t (ap.t (ao.t (ar.t (av.t (aw.t (au.t (ax.t (ak.t (ah.t ae))))))))))) (by rw[br.1];exact by rw[bwSs_len];omega)
  refine zya 97 (0+k*2) (n:=y9.n) (off:=0) (sz:=2) (i:=(k:Int)) xq bR xq xq sl31 (zza 98 (.v (.pointer (some ⟨dS,0+k*2,none⟩))) ?_)
  obtain ⟨c8,bt⟩:∃y:Sl,(cI.getD k rt0).1=y:=⟨_,rfl⟩
  have hq93:=bJ;rw[bt] at hq93
  have hp93:=((br.ext (al.t (ap.t (ao.t (ar.t (av.t (aw.t (au.t (ax.t (ak.t (ah.t ae))))))))))).2 k yz).1;rw[bt] at hp93
  refine zyl 99 (c8.v) hq93 ty37 (zzg 100 12 _ fun _ _ ai dU=>qym (k_bwSame dU (hp91.ext ai) (hp93.ext ai) yq (by have h9:=(bwSs_sm (n:=n) (k:=k) (w:=(((((1:Int):Rat)+e) / (((1:Int):Rat) - e))*(Nt.gr 40 (rtN q n 40:Int)))) yz).1;omega)) ?_)
  rintro _ u95 am rfl
  refine zza 101 (zB false) (zza 102 (zB false) (zza 103 (.v (x9.v)) ?_ (hw:=w1 12 false 102)))
  refine zza 104 (zI k) ?_ (hw:=w1 12 false 102)
  obtain ⟨cW,bU,dW,cg⟩:=MutS.at (i:=k) (ba.ext (aq.t (aA.t (al.t (ap.t (ao.t (ar.t (av.t (aw.t (au.t (ax.t (ak.t (ah.t (ae.t (ai.t am.ext))))))))))))))) (by rw[aC.1];exact by rw[bwSs_len];omega)
  refine zya 105 (0+k*2) (n:=x9.n) (off:=0) (sz:=2) (i:=(k:Int)) xq bU xq xq sl31 ?_ (hw:=w1 12 false 102)
  refine zza 106 (.v (.pointer (some ⟨cW,0+k*2+1,none⟩))) ?_ (hw:=w1 12 false 102)
  obtain ⟨dy,bC⟩:∃y:Sl,(bc.getD k rt0).2=y:=⟨_,rfl⟩
  have hq99:=cg;rw[bC] at hq99
  have hp99:=((aC.ext (aq.t (aA.t (al.t (ap.t (ao.t (ar.t (av.t (aw.t (au.t (ax.t (ak.t (ah.t (ae.t (ai.t am.ext))))))))))))))).2 k yz).2;rw[bC] at hp99
  refine zyl 107 (dy.v) hq99 ty37 ?_ (hw:=w1 12 false 102)
  refine zza 108 (.v (y9.v)) ?_ (hw:=w1 12 false 102)
  refine zza 109 (zI k) ?_ (hw:=w1 12 false 102)
  obtain ⟨bL,bz,cH,bu⟩:=MutS.at (i:=k) (bZ.ext (al.t (ap.t (ao.t (ar.t (av.t (aw.t (au.t (ax.t (ak.t (ah.t (ae.t (ai.t am.ext))))))))))))) (by rw[br.1];exact by rw[bwSs_len];omega)
  refine zya 110 (0+k*2) (n:=y9.n) (off:=0) (sz:=2) (i:=(k:Int)) xq bz xq xq sl31 ?_ (hw:=w1 12 false 102)
  refine zza 111 (.v (.pointer (some ⟨bL,0+k*2+1,none⟩))) ?_ (hw:=w1 12 false 102)
  obtain ⟨b2,aZ⟩:∃y:Sl,(cI.getD k rt0).2=y:=⟨_,rfl⟩
  have hq101:=bu;rw[aZ] at hq101
  have hp101:=((br.ext (al.t (ap.t (ao.t (ar.t (av.t (aw.t (au.t (ax.t (ak.t (ah.t (ae.t (ai.t am.ext))))))))))))).2 k yz).2;rw[aZ] at hp101
  refine zyl 112 (b2.v) hq101 ty37 ?_ (hw:=w1 12 false 102)
  refine zzg 113 12 _ (fun _ _ aa cr=>qym (k_bwSame cr (hp99.ext aa) (hp101.ext aa) yq (by have h9:=(bwSs_sm (n:=n) (k:=k) (w:=(((((1:Int):Rat)+e) / (((1:Int):Rat) - e))*(Nt.gr 40 (rtN q n 40:Int)))) yz).2;omega)) ?_) (hw:=w1 12 false 102)
  rintro _ dQ ab rfl
  refine zza 114 (zB false) ?_ (hw:=w1 12 false 102)
  refine zza 115 (zB false) (zza 116 (zB false) (zza 117 (.v (x9.v)) ?_ (hw:=w1 26 false 116)))
  refine zza 118 (zI k) ?_ (hw:=w1 26 false 116)
  obtain ⟨bT,bk,bx,cB⟩:=MutS.at (i:=k) (ba.ext (aq.t (aA.t (al.t (ap.t (ao.t (ar.t (av.t (aw.t (au.t (ax.t (ak.t (ah.t (ae.t (ai.t (am.t (aa.t ab.ext))))))))))))))))) (by rw[aC.1];exact by rw[bwSs_len];omega)
  refine zya 119 (0+k*2) (n:=x9.n) (off:=0) (sz:=2) (i:=(k:Int)) xq bk xq xq sl31 ?_ (hw:=w1 26 false 116)
  refine zza 120 (.v (.pointer (some ⟨bT,0+k*2,none⟩))) ?_ (hw:=w1 26 false 116)
  obtain ⟨cu,aW⟩:∃y:Sl,(bc.getD k rt0).1=y:=⟨_,rfl⟩
  have hq107:=bx;rw[aW] at hq107
  have hp107:=((aC.ext (aq.t (aA.t (al.t (ap.t (ao.t (ar.t (av.t (aw.t (au.t (ax.t (ak.t (ah.t (ae.t (ai.t (am.t (aa.t ab.ext))))))))))))))))).2 k yz).1;rw[aW] at hp107
  refine zyl 121 (cu.v) hq107 ty37 ?_ (hw:=w1 26 false 116)
  refine zzi 122 (.v (aB.v)) ty28 zze ?_ (hw:=w1 26 false 116)
  refine zza 124 (.v (x9.v)) ?_ (hw:=w1 26 false 116)
  refine zza 125 (zI k) ?_ (hw:=w1 26 false 116)
  obtain ⟨b1,bh,cF,bB⟩:=MutS.at (i:=k) (ba.ext (aq.t (aA.t (al.t (ap.t (ao.t (ar.t (av.t (aw.t (au.t (ax.t (ak.t (ah.t (ae.t (ai.t (am.t (aa.t ab.ext))))))))))))))))) (by rw[aC.1];exact by rw[bwSs_len];omega)
  refine zya 126 (0+k*2) (n:=x9.n) (off:=0) (sz:=2) (i:=(k:Int)) xq bh xq xq sl31 ?_ (hw:=w1 26 false 116)
  refine zza 127 (.v (.pointer (some ⟨b1,0+k*2+1,none⟩))) ?_ (hw:=w1 26 false 116)
  obtain ⟨cf,a0⟩:∃y:Sl,(bc.getD k rt0).2=y:=⟨_,rfl⟩
  have hq109:=bB;rw[a0] at hq109
  have hp109:=((aC.ext (aq.t (aA.t (al.t (ap.t (ao.t (ar.t (av.t (aw.t (au.t (ax.t (ak.t (ah.t (ae.t (ai.t (am.t (aa.t ab.ext))))))))))))))))).2 k yz).2;rw[a0] at hp109
  refine zyl 128 (cf.v) hq109 ty37 ?_ (hw:=w1 26 false 116)
  refine zzi 129 (.v (aB.v)) ty28 zze ?_ (hw:=w1 26 false 116)
  refine zzg 123 14 _ (fun _ _ ac ck=>qym (k_r5Eval (S:=150050) ck (hp107.ext ac).raw (bE.ext (ae.t (ai.t (am.t (aa.t (ab.t ac)))))).raw xq (lmT (bwSs_sm (n:=n) (k:=k) (w:=(((((1:Int):Rat)+e) / (((1:Int):Rat) - e))*(Nt.gr 40 (rtN q n 40:Int)))) yz).1 yq) xq xq (by have h9:=(bwSs_sm (n:=n) (k:=k) (w:=(((((1:Int):Rat)+e) / (((1:Int):Rat) - e))*(Nt.gr 40 (rtN q n 40:Int)))) yz).1;omega)) ?_) (hw:=w1 26 false 116)
  rintro _ dp ag ⟨c1,rfl,h112⟩
  replace h112:=RatN.more (L:=450152) h112 (lmS (bwSs_sm (n:=n) (k:=k) (w:=(((((1:Int):Rat)+e) / (((1:Int):Rat) - e))*(Nt.gr 40 (rtN q n 40:Int)))) yz).1 yq)
  refine zzg 130 14 _ (fun _ _ ad bO=>qym (k_r5Eval (S:=150050) bO (hp109.ext (ac.t (ag.t ad))).raw (bE.ext (ae.t (ai.t (am.t (aa.t (ab.t (ac.t (ag.t ad)))))))).raw xq (lmT (bwSs_sm (n:=n) (k:=k) (w:=(((((1:Int):Rat)+e) / (((1:Int):Rat) - e))*(Nt.gr 40 (rtN q n 40:Int)))) yz).2 yq) xq xq (by have h9:=(bwSs_sm (n:=n) (k:=k) (w:=(((((1:Int):Rat)+e) / (((1:Int):Rat) - e))*(Nt.gr 40 (rtN q n 40:Int)))) yz).2;omega)) ?_) (hw:=w1 26 false 116)
  rintro _ dL aj ⟨df,rfl,h118⟩
  replace h118:=RatN.more (L:=450152) h118 (lmS (bwSs_sm (n:=n) (k:=k) (w:=(((((1:Int):Rat)+e) / (((1:Int):Rat) - e))*(Nt.gr 40 (rtN q n 40:Int)))) yz).2 yq)
  refine zzg 131 13 _ (fun _ _ af ce=>qym (k_rqCompare ce (h112.ext (ad.t (aj.t af))).raw (h118.ext af).raw xq xq) ?_) (hw:=w1 26 false 116)
  rintro _ c5 an rfl
  refine zza 132 (zB ((cmpQ (Pol.evL ((bwSs n (((((1:Int):Rat)+e) / (((1:Int):Rat) - e))*(Nt.gr 40 (rtN q n 40:Int)))).getD k ([],[])).1 ((1:Int):Rat)) (Pol.evL ((bwSs n (((((1:Int):Rat)+e) / (((1:Int):Rat) - e))*(Nt.gr 40 (rtN q n 40:Int)))).getD k ([],[])).2 ((1:Int):Rat))) != 0)) ?_ (hw:=w1 26 false 116)
  refine zza 133 (zB ((cmpQ (Pol.evL ((bwSs n (((((1:Int):Rat)+e) / (((1:Int):Rat) - e))*(Nt.gr 40 (rtN q n 40:Int)))).getD k ([],[])).1 ((1:Int):Rat)) (Pol.evL ((bwSs n (((((1:Int):Rat)+e) / (((1:Int):Rat) - e))*(Nt.gr 40 (rtN q n 40:Int)))).getD k ([],[])).2 ((1:Int):Rat))) != 0)) (zzc 187 [(0,zI n),(11,.v (x9.v)),(13,.v (y9.v)),(15,.adr 15 0),(16,zI 0),(17,.adr 17 0),(18,.adr 18 0),(19,.adr 19 0),(20,.adr 20 0),(21,zI k),(133,zB ((cmpQ (Pol.evL ((bwSs n (((((1:Int):Rat)+e) / (((1:Int):Rat) - e))*(Nt.gr 40 (rtN q n 40:Int)))).getD k ([],[])).1 ((1:Int):Rat)) (Pol.evL ((bwSs n (((((1:Int):Rat)+e) / (((1:Int):Rat) - e))*(Nt.gr 40 (rtN q n 40:Int)))).getD k ([],[])).2 ((1:Int):Rat))) != 0))] [(15,⟨39,g9.cs++[p9.v,.int .i64 n,z9.v]⟩),(17,⟨28,aY.cs⟩),(18,⟨28,aB.cs⟩),(19,⟨28,rn.cs⟩),(20,⟨28,rd.cs⟩)] (zzu (b:=(cmpQ (Pol.evL ((bwSs n (((((1:Int):Rat)+e) / (((1:Int):Rat) - e))*(Nt.gr 40 (rtN q n 40:Int)))).getD k ([],[])).1 ((1:Int):Rat)) (Pol.evL ((bwSs n (((((1:Int):Rat)+e) / (((1:Int):Rat) - e))*(Nt.gr 40 (rtN q n 40:Int)))).getD k ([],[])).2 ((1:Int):Rat))) != 0) xj (fun hb=>?_) (fun hb=>?_)))
  ·exact absurd hb (by rw[show ((cmpQ (Pol.evL ((bwSs n (((((1:Int):Rat)+e) / (((1:Int):Rat) - e))*(Nt.gr 40 (rtN q n 40:Int)))).getD k ([],[])).1 ((1:Int):Rat)) (Pol.evL ((bwSs n (((((1:Int):Rat)+e) / (((1:Int):Rat) - e))*(Nt.gr 40 (rtN q n 40:Int)))).getD k ([],[])).2 ((1:Int):Rat))) != 0)=false from (cmp_nf (bwSs_one yz))];decide)
  clear hb
  refine zzs (zzp ?_)
  refine zzz [0,0,0,6,14,30,0,126,255,0,0,0,3072,7168,15360,0,65023,131071,262143,524287] [(0,[]),(1,[]),(2,[]),(3,[]),(4,[]),(5,[]),(6,[]),(9,[]),(10,[]),(11,[]),(12,[]),(13,[]),(14,[]),(15,[]),(7,[]),(8,[]),(16,[]),(17,[]),(18,[]),(19,[])] xj xj (zzi 134 (.v (rn.v)) ty28 zze (zza 135 (.v (x9.v)) (zza 136 (zI k) ?_)))
  obtain ⟨cb,bn,bq,cC⟩:=MutS.at (i:=k) (ba.ext (aq.t (aA.t (al.t (ap.t (ao.t (ar.t (av.t (aw.t (au.t (ax.t (ak.t (ah.t (ae.t (ai.t (am.t (aa.t (ab.t (ac.t (ag.t (ad.t (aj.t (af.t an.ext))))))))))))))))))))))) (by rw[aC.1];exact by rw[bwSs_len];omega)
  refine zya 137 (0+k*2) (n:=x9.n) (off:=0) (sz:=2) (i:=(k:Int)) xq bn xq xq sl31 (zza 138 (.v (.pointer (some ⟨cb,0+k*2,none⟩))) ?_)
  obtain ⟨bN,a1⟩:∃y:Sl,(bc.getD k rt0).1=y:=⟨_,rfl⟩
  have hq127:=bq;rw[a1] at hq127
  have hp127:=((aC.ext (aq.t (aA.t (al.t (ap.t (ao.t (ar.t (av.t (aw.t (au.t (ax.t (ak.t (ah.t (ae.t (ai.t (am.t (aa.t (ab.t (ac.t (ag.t (ad.t (aj.t (af.t an.ext))))))))))))))))))))))).2 k yz).1;rw[a1] at hp127
  refine zyl 139 (bN.v) hq127 ty37 (zzi 140 (.v (aY.v)) ty28 zze (zzi 143 (.v (rd.v)) ty28 zze (zza 144 (.v (x9.v)) (zza 145 (zI k) ?_))))
  obtain ⟨cj,bi,cw,bo⟩:=MutS.at (i:=k) (ba.ext (aq.t (aA.t (al.t (ap.t (ao.t (ar.t (av.t (aw.t (au.t (ax.t (ak.t (ah.t (ae.t (ai.t (am.t (aa.t (ab.t (ac.t (ag.t (ad.t (aj.t (af.t an.ext))))))))))))))))))))))) (by rw[aC.1];exact by rw[bwSs_len];omega)
  refine zya 146 (0+k*2) (n:=x9.n) (off:=0) (sz:=2) (i:=(k:Int)) xq bi xq xq sl31 (zza 147 (.v (.pointer (some ⟨cj,0+k*2+1,none⟩))) ?_)
  obtain ⟨cc,aX⟩:∃y:Sl,(bc.getD k rt0).2=y:=⟨_,rfl⟩
  have hq129:=bo;rw[aX] at hq129
  have hp129:=((aC.ext (aq.t (aA.t (al.t (ap.t (ao.t (ar.t (av.t (aw.t (au.t (ax.t (ak.t (ah.t (ae.t (ai.t (am.t (aa.t (ab.t (ac.t (ag.t (ad.t (aj.t (af.t an.ext))))))))))))))))))))))).2 k yz).2;rw[aX] at hp129
  refine zyl 148 (cc.v) hq129 ty37 (zzi 149 (.v (aY.v)) ty28 zze (zzg 141 14 _ fun _ _ ay b8=>qym (k_r5Eval (S:=150050) b8 (hp127.ext ay).raw (he_xx.ext (ak.t (ah.t (ae.t (ai.t (am.t (aa.t (ab.t (ac.t (ag.t (ad.t (aj.t (af.t (an.t ay)))))))))))))).raw xq (lmT (bwSs_sm (n:=n) (k:=k) (w:=(((((1:Int):Rat)+e) / (((1:Int):Rat) - e))*(Nt.gr 40 (rtN q n 40:Int)))) yz).1 yq) xq xq (by have h9:=(bwSs_sm (n:=n) (k:=k) (w:=(((((1:Int):Rat)+e) / (((1:Int):Rat) - e))*(Nt.gr 40 (rtN q n 40:Int)))) yz).1;omega)) ?_))
  rintro _ c7 aG ⟨dh,rfl,h132⟩
  replace h132:=RatN.more (L:=450152) h132 (lmS (bwSs_sm (n:=n) (k:=k) (w:=(((((1:Int):Rat)+e) / (((1:Int):Rat) - e))*(Nt.gr 40 (rtN q n 40:Int)))) yz).1 yq)
  refine zzg 142 15 _ fun _ _ aE bY=>qym (k_rqMul bY (b0.ext (ai.t (am.t (aa.t (ab.t (ac.t (ag.t (ad.t (aj.t (af.t (an.t (ay.t (aG.t aE))))))))))))).raw (h132.ext aE).raw xq xq) ?_
  rintro _ cT aU ⟨bs,rfl,ct⟩
  refine zzg 150 14 _ fun _ _ aK cn=>qym (k_r5Eval (S:=150050) cn (hp129.ext (ay.t (aG.t (aE.t (aU.t aK))))).raw (he_xx.ext (ak.t (ah.t (ae.t (ai.t (am.t (aa.t (ab.t (ac.t (ag.t (ad.t (aj.t (af.t (an.t (ay.t (aG.t (aE.t (aU.t aK)))))))))))))))))).raw xq (lmT (bwSs_sm (n:=n) (k:=k) (w:=(((((1:Int):Rat)+e) / (((1:Int):Rat) - e))*(Nt.gr 40 (rtN q n 40:Int)))) yz).2 yq) xq xq (by have h9:=(bwSs_sm (n:=n) (k:=k) (w:=(((((1:Int):Rat)+e) / (((1:Int):Rat) - e))*(Nt.gr 40 (rtN q n 40:Int)))) yz).2;omega)) ?_
  rintro _ dV a5 ⟨da,rfl,h144⟩
  replace h144:=RatN.more (L:=450152) h144 (lmS (bwSs_sm (n:=n) (k:=k) (w:=(((((1:Int):Rat)+e) / (((1:Int):Rat) - e))*(Nt.gr 40 (rtN q n 40:Int)))) yz).2 yq)
  refine zzg 151 15 _ fun _ _ aL bK=>qym (k_rqMul bK (b6.ext (ai.t (am.t (aa.t (ab.t (ac.t (ag.t (ad.t (aj.t (af.t (an.t (ay.t (aG.t (aE.t (aU.t (aK.t (a5.t aL))))))))))))))))).raw (h144.ext aL).raw xq xq) ?_
  rintro _ dR bv ⟨bg,rfl,ca⟩
  refine zzj ⟨28,bs.cs⟩ ty28 ?_
  refine zzj ⟨28,bg.cs⟩ ty28 ?_
  refine zzx ?_
  refine zzp (zzf (zza 88 (zI k) (qwi 89 ((k:Int)+1) (k+1:Nat) xz (zza 21 (zI (k+1:Nat)) (zzx ?_)))))
  have hkl:k<(bwSs n (((((1:Int):Rat)+e) / (((1:Int):Rat) - e))*(Nt.gr 40 (rtN q n 40:Int)))).length:=by rw[bwSs_len];omega
  refine ⟨_,?_,_,by exact zzv _ _ _,k+1,bs,bg,rfl,by omega,rfl,(ae.t (ai.t (am.t (aa.t (ab.t (ac.t (ag.t (ad.t (aj.t (af.t (an.t (ay.t (aG.t (aE.t (aU.t (aK.t (a5.t (aL.t bv.ext)))))))))))))))))),(by rw[pdN_S xx hkl];exact RatN.more (K:=((k*450250+5)+450152+1)) (ct.ext (aK.t (a5.t (aL.t bv.ext)))) xq),(by rw[pdD_S xx hkl];exact RatN.more (K:=((k*450250+5)+450152+1)) ca xq)⟩
  omega
 have qhb89:=qyf a4
 refine zyc (zzp (zzd ?_))
 have dq:(bwSs n (((((1:Int):Rat)+e) / (((1:Int):Rat) - e))*(Nt.gr 40 (rtN q n 40:Int)))).take k=(bwSs n (((((1:Int):Rat)+e) / (((1:Int):Rat) - e))*(Nt.gr 40 (rtN q n 40:Int)))):=List.take_of_length_le yz
 rw[dq] at b0 b6
 refine zzf (zza 152 (.adr 15 5) (zzi 153 (.v (z9.v)) ty37 zzl (zzi 154 (.v (aY.v)) ty28 zze (zzg 155 14 _ fun _ _ aF cp=>qym (k_r5Eval (S:=1050) cp (dG.ext (ao.t (ar.t (av.t (aw.t (au.t (ax.t (ak.t (ah.t (ae.trans aF)))))))))).raw (he_xx.ext (ak.t (ah.t (ae.trans aF)))).raw xq (lmT (bwDen_len (n:=n) (c:=((((1:Int):Rat)+e) / (((1:Int):Rat) - e))) (q:=q) xq) yq) xq xq (by have h9:=(bwDen_len (n:=n) (c:=((((1:Int):Rat)+e) / (((1:Int):Rat) - e))) (q:=q) xq);omega)) ?_))))
 rintro _ dC aN ⟨aM,rfl,h156⟩
 replace h156:=RatN.more (L:=17852) h156 (lmS (bwDen_len (n:=n) (c:=((((1:Int):Rat)+e) / (((1:Int):Rat) - e))) (q:=q) xq) yq)
 refine zzk 22 ⟨28,zw3⟩ (zzj ⟨28,aM.cs⟩ ty28 ?_)
 refine zzb (sq9 (zzi 157 (.v (aB.v)) ty28 zze (zzi 158 (.v (aY.v)) ty28 zze (zzg 159 17 _ fun _ _ aD cl=>qym (k_rqAdd cl (bE.ext (ae.t (aF.t (aN.t aD)))).raw (he_xx.ext (ak.t (ah.t (ae.t (aF.t (aN.t aD)))))).raw xq xq) ?_))))
 rintro _ c6 aQ ⟨du,rfl,bW⟩
 refine zza 160 (zI n) (zzg 161 16 _ fun _ _ aI bI=>qym (k_rqPow (n:=n) bI (bW.ext aI).raw xq xq) ?_)
 rintro _ c2 aS ⟨aH,rfl,cv⟩
 refine zza 156 (.v (.tuple #[aH.v,.int .i64 0])) (zza 162 (.v (aH.v)) (zza 163 (zI 0) (zzk 23 ⟨28,zw3⟩ (zzj ⟨28,aH.cs⟩ ty28 ?_))))
 refine zza 24 (zI 0) (zzb (sq9 (zzi 164 (.v (rd.v)) ty28 zze (zzi 165 (.v (aM.v)) ty28 zze (zzg 166 19 _ fun _ _ aJ bS=>qym (k_rqSub bS (b6.ext (aF.t (aN.t (aD.t (aQ.t (aI.t (aS.t aJ))))))).raw (h156.ext (aD.t (aQ.t (aI.t (aS.t aJ))))).raw xq xq) ?_)))))
 rintro _ dK a6 ⟨cY,rfl,cq⟩
 refine zzg 167 18 _ fun _ _ aV ch=>qym (k_rqAbs ch (cq.ext aV).raw xq) ?_
 rintro _ dn a9 ⟨a2,rfl,b3⟩
 refine zzk 25 ⟨28,zw3⟩ (zzj ⟨28,a2.cs⟩ ty28 ?_)
 refine zzc 187 [(16,zI 0),(19,.adr 19 0),(22,.adr 22 0),(23,.adr 23 0),(25,.adr 25 0)] [(19,⟨28,rn.cs⟩),(22,⟨28,aM.cs⟩),(23,⟨28,aH.cs⟩),(25,⟨28,a2.cs⟩)] (zzd (zzz [0,1,3,7,15,31,63,63,255,511,1023,2047,4095,4095,16383,4095,65535,131071,262143,524287] [(0,[]),(1,[]),(2,[]),(3,[]),(4,[]),(5,[]),(6,[]),(7,[]),(8,[]),(9,[]),(10,[]),(11,[]),(12,[]),(15,[]),(13,[]),(14,[]),(16,[]),(17,[]),(18,[]),(19,[])] xj xj (zzg 168 9 _ fun _ _ aO bG=>qym (k_known24 bG) ?_)))
 rintro _ cS aR rfl
 refine zza 169 (zB true) (zza 170 (zI 0) ?_ (hw:=w1 1 true 169))
 refine zza 171 (zB true) ?_ (hw:=w1 1 true 169)
 refine zza 172 (zB true) (zza 173 (zB true) (zzi 174 (.v (rn.v)) ty28 zze ?_ (hw:=w1 5 true 173)))
 refine zzi 175 (.v (aH.v)) ty28 zze ?_ (hw:=w1 5 true 173)
 refine zzg 176 13 _ (fun _ _ aT bP=>qym (k_rqCompare bP (b0.ext (aF.t (aN.t (aD.t (aQ.t (aI.t (aS.t (aJ.t (a6.t (aV.t (a9.t (aO.t (aR.t aT))))))))))))).raw (cv.ext (aJ.t (a6.t (aV.t (a9.t (aO.t (aR.t aT))))))).raw xq xq) ?_) (hw:=w1 5 true 173)
 rintro _ dD bD rfl
 refine zza 177 (zB ((cmpQ (pdN xx (bwSs n (((((1:Int):Rat)+e) / (((1:Int):Rat) - e))*(Nt.gr 40 (rtN q n 40:Int))))) ((((1:Int):Rat)+xx)^n))==0)) ?_ (hw:=w1 5 true 173)
 refine zza 178 (zB ((cmpQ (pdN xx (bwSs n (((((1:Int):Rat)+e) / (((1:Int):Rat) - e))*(Nt.gr 40 (rtN q n 40:Int))))) ((((1:Int):Rat)+xx)^n))==0)) (zyq 179 (x:=zB ((cmpQ (pdN xx (bwSs n (((((1:Int):Rat)+e) / (((1:Int):Rat) - e))*(Nt.gr 40 (rtN q n 40:Int))))) ((((1:Int):Rat)+xx)^n))==0)) (zB true) (by rw[show ((cmpQ (pdN xx (bwSs n (((((1:Int):Rat)+e) / (((1:Int):Rat) - e))*(Nt.gr 40 (rtN q n 40:Int))))) ((((1:Int):Rat)+xx)^n))==0)=true from (cmp_et (bwSs_N n (((((1:Int):Rat)+e) / (((1:Int):Rat) - e))*(Nt.gr 40 (rtN q n 40:Int))) xx))]) (zzi 180 (.v (a2.v)) ty28 zze ?_ (hw:=w1 11 true 179)))
 refine zzi 183 (.v (aM.v)) ty28 zze ?_ (hw:=w1 11 true 179)
 refine zzg 181 11 _ (fun _ _ bA b7=>qym (k_rqOf b7 (z:=1073741824) xq xq) ?_) (hw:=w1 11 true 179)
 rintro _ dN bl ⟨dE,rfl,bQ⟩
 refine zzg 182 15 _ (fun _ _ bb bV=>qym (k_rqMul bV (b3.ext (aO.t (aR.t (aT.t (bD.t (bA.t (bl.t bb))))))).raw (bQ.ext bb).raw xq xq) ?_) (hw:=w1 11 true 179)
 rintro _ c9 cm ⟨ds,rfl,bM⟩
 refine zzg 184 13 _ (fun _ _ bf bX=>qym (k_rqCompare bX (bM.ext bf).raw (h156.ext (aD.t (aQ.t (aI.t (aS.t (aJ.t (a6.t (aV.t (a9.t (aO.t (aR.t (aT.t (bD.t (bA.t (bl.t (bb.t (cm.t bf))))))))))))))))).raw xq xq) ?_) (hw:=w1 11 true 179)
 rintro _ cQ dP rfl
 refine zza 185 (zB (decide ((cmpQ ((absQ ((pdD xx (bwSs n (((((1:Int):Rat)+e) / (((1:Int):Rat) - e))*(Nt.gr 40 (rtN q n 40:Int))))) - (Pol.evL (bwDen n ((((1:Int):Rat)+e) / (((1:Int):Rat) - e)) q) xx)))*((1073741824:Int):Rat)) (Pol.evL (bwDen n ((((1:Int):Rat)+e) / (((1:Int):Rat) - e)) q) xx))≤0))) ?_ (hw:=w1 11 true 179)
 refine zza 186 (zB (decide ((cmpQ ((absQ ((pdD xx (bwSs n (((((1:Int):Rat)+e) / (((1:Int):Rat) - e))*(Nt.gr 40 (rtN q n 40:Int))))) - (Pol.evL (bwDen n ((((1:Int):Rat)+e) / (((1:Int):Rat) - e)) q) xx)))*((1073741824:Int):Rat)) (Pol.evL (bwDen n ((((1:Int):Rat)+e) / (((1:Int):Rat) - e)) q) xx))≤0))) (zza 8 (zB (decide ((cmpQ ((absQ ((pdD xx (bwSs n (((((1:Int):Rat)+e) / (((1:Int):Rat) - e))*(Nt.gr 40 (rtN q n 40:Int))))) - (Pol.evL (bwDen n ((((1:Int):Rat)+e) / (((1:Int):Rat) - e)) q) xx)))*((1073741824:Int):Rat)) (Pol.evL (bwDen n ((((1:Int):Rat)+e) / (((1:Int):Rat) - e)) q) xx))≤0))) (zzb (zzo (ret0 [.bool (decide ((cmpQ ((absQ ((pdD xx (bwSs n (((((1:Int):Rat)+e) / (((1:Int):Rat) - e))*(Nt.gr 40 (rtN q n 40:Int))))) - (Pol.evL (bwDen n ((((1:Int):Rat)+e) / (((1:Int):Rat) - e)) q) xx)))*((1073741824:Int):Rat)) (Pol.evL (bwDen n ((((1:Int):Rat)+e) / (((1:Int):Rat) - e)) q) xx))≤0))] ⟨zzq,trivial⟩ fun c4 dt=>?_))))
 show Value.bool _=Value.bool true
 rw[show (decide ((cmpQ ((absQ ((pdD xx (bwSs n (((((1:Int):Rat)+e) / (((1:Int):Rat) - e))*(Nt.gr 40 (rtN q n 40:Int))))) - (Pol.evL (bwDen n ((((1:Int):Rat)+e) / (((1:Int):Rat) - e)) q) xx)))*((1073741824:Int):Rat)) (Pol.evL (bwDen n ((((1:Int):Rat)+e) / (((1:Int):Rat) - e)) q) xx))≤0))=true from (fin_ok h1 xq bF (Rat.le_of_lt (warp_pos bw be)) c3 cO)]
end Go.Proofs.YtedobdigeeflcaaGreat
