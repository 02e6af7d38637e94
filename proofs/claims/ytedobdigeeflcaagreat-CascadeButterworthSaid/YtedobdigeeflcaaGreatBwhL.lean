/- Cascades of Butterworth filters, of the reference. Printed by wip/sym/g_bwd.py. Sections of a cascade: sorting, pairing, plain. Rows that are small; what is left behind the deletion of a row. Sections of a cascade: sorting, pairing. Printed by wip/sym/g_ka.py. Sections of a cascade: pairing. Printed by wip/sym/g_kb.py. Contracts of words and of formats. Printed by wip/sym/g_wv.py. -/
import Derived.Test.YtedobdigeeflcaaGreatBwhK
set_option linter.unusedVariables false
set_option maxHeartbeats 8000000
namespace Go.Proofs.YtedobdigeeflcaaGreat
open Nt
open Go.RowKit
theorem k_rqDiv1 {u w:World} {r1 r2:RL} {x y:Rat} {K L:Nat} (d:Dat u w) (h1:RatV u r1 x K) (h2:RatV u r2 y L) (hy:y≠0) (hK:K≤1000) (hL:L≤1000):qyc 36 #[r1.v,r2.v] w (Post u w fun v u'=>∃p:RL,v=.tuple #[p.v,.int .i64 0]∧RatN u' p (x / y) (K+L+1)) :=
 qym (k_rqDiv d h1 h2 xq xq) fun v u' _ h=>h.elim (fun h=>absurd h.2 hy) (fun h=>h.2)
theorem Nt.dwn_len (w:Rat):(dwn w).length≤2:=map_lenQ bm_len
theorem k_bwIn {u w:World} {z a b:Int} (d:Dat u w):qyc 35 #[.int .i64 z,.int .i64 a,.int .i64 b] w (Post u w fun v _=>v=.bool (decide (a≤z)&&decide (z≤b))):=by
 refine zzm Tryz.func35 rfl Tryz.ntmps35 Tryz.results35 d ?_
 refine sq9 (zza 6 (zB false) (zzb (sq9 (zza 7 (zI z) (zza 8 (zI a) (zza 9 (zB (decide (a≤z))) ?_))))))
 rcases Bool.eq_false_or_eq_true (decide (a≤z)) with hs11 | hs11
 ·refine qbi 10 hs11 ?_
  have qhs11:=qyt hs11
  refine zza 11 (zI z) ?_ (hw:=w1 3 true 10)
  refine zza 12 (zI b) ?_ (hw:=w1 3 true 10)
  refine zza 13 (zB (decide (z≤b))) ?_ (hw:=w1 3 true 10)
  refine zza 14 (zB (decide (z≤b))) (zza 6 (zB (decide (z≤b))) (zzb (zzo (ret0 [.bool (decide (z≤b))] ⟨zzq,trivial⟩ fun u12 e13=>?_))))
  show Value.bool _=Value.bool _
  rw[hs11]
  rfl
 refine qbi 10 hs11 ?_
 have qhs11:=qyf hs11
 refine zzn 11 (uw 3 true false 10) (zzn 12 (uw 3 true false 10) (zzn 13 (uw 3 true false 10) (zza 14 (zB false) (zza 6 (zB false) (zzb (zzo (ret0 [.bool false] ⟨zzq,trivial⟩ fun u14 e15=>?_)))))))
 show Value.bool _=Value.bool _
 rw[hs11]
 rfl
theorem k_rcsButter0 {u w:World} {re r:RL} (d:Dat u w):qyc 8 #[.int .i64 0,re.v,r.v,.int .i64 40] w (Post u w fun v u'=>v=.tuple #[qyn,.int .i64 12]):=by
 refine zzm Tryz.func8 rfl Tryz.ntmps8 Tryz.results8 d ?_
 refine sq9 (zzk 5 ⟨28,re.cs⟩ (zzk 6 ⟨28,r.cs⟩ (zza 8 (.v (qyn)) (zza 9 (zI 0) (zzb (zzd (sq9 (zza 26 (zI 0) (zzi 27 (.v (re.v)) ty28 zze (zzi 28 (.v (r.v)) ty28 zze (zzg 29 10 _ fun _ _ _ aa=>qym (k_bcButter0 (re:=re) (r:=r) aa) ?_)))))))))))
 rintro _ u12 g13 rfl
 refine zza 25 (.v (.tuple #[.agg #[.bool false,qyn,qyn,qyn,.int .i64 0,qyn],.int .i64 12])) (zza 30 (.v (.agg #[.bool false,qyn,qyn,qyn,.int .i64 0,qyn])) (zza 31 (zI 12) (zzk 10 ⟨39,[.bool false,qyn,qyn,qyn,.int .i64 0,qyn]⟩ (zzj ⟨39,[.bool false,qyn,qyn,qyn,.int .i64 0,qyn]⟩ ty39 ?_))))
 refine zza 11 (zI 12) (zzb (sq9 (zza 32 (zI 12) (zza 33 (zB true) (zzb (zyr xj (sq9 (zza 34 (zI 12) (zza 8 (.v (qyn)) (zza 9 (zI 12) (zzb ?_)))))))))))
 refine zzo (zzw (ret0 [qyn,.int .i64 12] ⟨zzq,zzq,trivial⟩ fun u15 e16=>?_))
 rfl
theorem k_rcsButter {u w:World} {re r:RL} {e q:Rat} {K n D A:Nat} (d:Dat u w) (he:RatV u re e K) (hr:RatV u r q K) (he0:((-1:Int):Rat)<e) (he1:e<((1:Int):Rat)) (hq:0<q) (hK:K≤20) (h1:1≤n) (h8:n≤8) (hq4:1 / 4≤q) (hD0:0<D) (hc:Wh (((((1:Int):Rat)+e) / (((1:Int):Rat) - e))*((D:Int):Rat)) A) (hD:D≤2^A) (hA:A≤1000):qyc 8 #[.int .i64 (n:Int),re.v,r.v,.int .i64 40] w (Post u w fun v u'=>∃ (x:Sl) (Ss:List Rt),v=.tuple #[x.v,.int .i64 0]∧MutS 2 45 u.heap.size u' x (rvs Ss)∧RtN u' Ss (bwSs n (((((1:Int):Rat)+e) / (((1:Int):Rat) - e))*(Nt.gr 40 (rtN q n 40:Int)))) 150000):=by
 refine zzm Tryz.func8 rfl Tryz.ntmps8 Tryz.results8 d ?_
 refine sq9 (zzk 5 ⟨28,re.cs⟩ (zzk 6 ⟨28,r.cs⟩ (zza 8 (.v (qyn)) (zza 9 (zI 0) (zzb (zzd (sq9 (zza 26 (zI n) (zzi 27 (.v (re.v)) ty28 zze (zzi 28 (.v (r.v)) ty28 zze (zzg 29 10 _ fun _ _ a9 cH=>qym (k_bcButter (n:=n) cH (he.ext a9) (hr.ext a9) he0 he1 hq xq h1 h8 hD0 hc hD hA) ?_)))))))))))
 rintro _ u16 bR ⟨a0,ci,cn,rfl,c2⟩
 refine zza 25 (.v (.tuple #[.agg #[.bool a0.s,a0.m.v,a0.d.v,ci.v,.int .i64 n,cn.v],.int .i64 0])) (zza 30 (.v (.agg #[.bool a0.s,a0.m.v,a0.d.v,ci.v,.int .i64 n,cn.v])) (zza 31 (zI 0) (zzk 10 ⟨39,[.bool false,qyn,qyn,qyn,.int .i64 0,qyn]⟩ (zzj ⟨39,a0.cs++[ci.v,.int .i64 n,cn.v]⟩ ty39 ?_))))
 refine zza 11 (zI 0) (zzb (sq9 (zza 32 (zI 0) (zza 33 (zB false) (zzb (zys xj (zzs (zzp ?_))))))))
 refine zzd (sq9 (zza 35 (zI 40) (zzg 36 35 _ fun _ _ bV de=>qym (k_bwIn (z:=40) (a:=16) (b:=256) de) ?_)))
 rintro _ u20 bT rfl
 refine zza 37 (zB (!(decide ((16:Int)≤40)&&decide ((40:Int)≤256)))) (zzb (zzu (b := !(decide ((16:Int)≤40)&&decide ((40:Int)≤256))) xj (fun hb=>?_) (fun hb=>?_)))
 ·exact absurd hb (by rw[show (!(decide ((16:Int)≤40)&&decide ((40:Int)≤256)))=false from yq];decide)
 clear hb
 refine zzs (zzp ?_)
 refine sq9 (zzg 38 11 _ fun _ _ bW cL=>qym (k_rqOf cL (z:=1) xq xq) ?_)
 rintro _ u26 bS ⟨an,rfl,bg⟩
 refine zzk 12 ⟨28,zw3⟩ (zzj ⟨28,an.cs⟩ ty28 ?_)
 refine zzb (zzd (zzz [0,0,3,0,0,31,63,127,255,255,0,1535,4095] [(0,[]),(1,[]),(3,[]),(4,[]),(10,[]),(2,[]),(5,[]),(6,[]),(7,[]),(8,[]),(9,[]),(11,[]),(12,[])] xj xj (zzi 40 (.v (an.v)) ty28 zze (zzi 41 (.v (re.v)) ty28 zze (zzi 43 (.v (an.v)) ty28 zze (zzi 44 (.v (re.v)) ty28 zze (zzk 13 ⟨28,zw3⟩ (zzg 42 17 _ fun _ _ aI cZ=>qym (k_rqAdd cZ (bg.ext aI).raw (he.ext (a9.t (bR.t (bV.t (bT.t (bW.t (bS.t aI))))))) xq xq) ?_))))))))
 rintro _ u32 a4 ⟨r30,rfl,di⟩
 refine zzg 45 19 _ fun _ _ aN cP=>qym (k_rqSub cP (bg.ext (aI.t (a4.t aN))).raw (he.ext (a9.t (bR.t (bV.t (bT.t (bW.t (bS.t (aI.t (a4.t aN))))))))) xq xq) ?_
 rintro _ u38 ba ⟨r36,rfl,c5⟩
 refine zzg 46 36 _ fun _ _ aZ da=>qym (k_rqDiv1 da (di.ext (aN.t (ba.t aZ))).raw (c5.ext aZ).raw (one_sub_ne he1) xq xq) ?_
 rintro _ u44 bJ ⟨bx,rfl,cR⟩
 refine zza 39 (.v (.tuple #[bx.v,.int .i64 0])) (zza 47 (.v (bx.v)) (zza 48 (zI 0) (zzj ⟨28,bx.cs⟩ ty28 ?_)))
 refine zza 14 (zI 0) (zzc 124 [(0,zI n),(3,zI 40),(6,.adr 6 0),(12,.adr 12 0),(13,.adr 13 0)] [(6,⟨28,r.cs⟩),(12,⟨28,an.cs⟩),(13,⟨28,bx.cs⟩)] (sq9 (zzi 50 (.v (r.v)) ty28 zze (zza 51 (zI n) (zza 52 (zI 40) (zzg 53 37 _ fun _ _ bb c6=>qym (k_r10RootG (n:=n) (k:=40) c6 (hr.ext (a9.t (bR.t (bV.t (bT.t (bW.t (bS.t (aI.t (a4.t (aN.t (ba.t (aZ.t (bJ.t bb))))))))))))) (Rat.le_of_lt hq) h1 xq yq xq) ?_))))))
 rintro _ u52 bz ⟨aO,aW,rfl,dc,h51⟩
 refine zza 49 (.v (.tuple #[.agg #[.bool aO.s,aO.m.v,aO.d.v,.bool aW.s,aW.m.v,aW.d.v],.int .i64 0])) (zza 54 (.v (.agg #[.bool aO.s,aO.m.v,aO.d.v,.bool aW.s,aW.m.v,aW.d.v])) (zza 55 (zI 0) (zzk 15 ⟨57,zw6⟩ (zzj ⟨57,aO.cs++aW.cs⟩ ty57 ?_))))
 refine zza 16 (zI 0) (zzb (sq9 (zzi 56 (.v (bx.v)) ty28 zze (zza 57 (.adr 15 0) (zzi 58 (.v (aO.v)) ty28 zze (zzg 59 15 _ fun _ _ be cV=>qym (k_rqMul cV (cR.ext (bb.t (bz.t be))).raw (dc.ext be).raw xq xq) ?_))))))
 rintro _ u58 bU ⟨bi,rfl,cC⟩
 refine zzk 17 ⟨28,zw3⟩ (zzj ⟨28,bi.cs⟩ ty28 ?_)
 refine zzb (zzd (sq9 (zzi 60 (.v (bi.v)) ty28 zze (zzg 61 38 _ fun _ _ a8 cO=>qym (k_rqSign cO (cC.ext a8).raw xq) ?_))))
 rintro _ u62 bC rfl
 refine zza 62 (zB ((sgQ (((((1:Int):Rat)+e) / (((1:Int):Rat) - e))*(Nt.gr 40 (rtN q n 40:Int))))==0)) (zzb (zzu (b:=(sgQ (((((1:Int):Rat)+e) / (((1:Int):Rat) - e))*(Nt.gr 40 (rtN q n 40:Int))))==0) xj (fun hb=>?_) (fun hb=>?_)))
 ·exact absurd hb (by rw[show ((sgQ (((((1:Int):Rat)+e) / (((1:Int):Rat) - e))*(Nt.gr 40 (rtN q n 40:Int))))==0)=false from (sg_ne (bw_pos h1 h8 hq4 (warp_pos he0 he1)))];decide)
 clear hb
 refine zzs (zzp ?_)
 refine zzd (zzz [0,0,3,0,0,24,0,120,255,511] [(0,[]),(1,[]),(2,[]),(3,[]),(6,[]),(4,[]),(5,[]),(7,[68]),(8,[]),(9,[])] xj xj (zzi 63 (.v (an.v)) ty28 zze (zzi 64 (.v (an.v)) ty28 zze (sy_lit 65 ⟨28,an.cs++an.cs⟩ 2 ?_))))
 refine zzi 66 (.v (an.v)) ty28 zze (zzi 69 (.v (bi.v)) ty28 zze (zzg 67 11 _ fun _ _ bO dh=>qym (k_rqOf dh (z:=(-1)) xq xq) ?_))
 rintro _ u68 bq ⟨aL,rfl,cY⟩
 refine sy_lit 68 ⟨28,an.cs++aL.cs⟩ 2 ?_
 refine zyo 70 39 [.slc 68 0 2 2,.v (bi.v)] [68] (.inr rfl) (pub_mk xw) (k:=?_)
 intro cl w71 cz bc cS c3
 have ct:cz.heap[cl 68]? = some (.cells #[.bool an.s,.slice an.m.a an.m.n an.m.c,.slice an.d.a an.d.n an.d.c,.bool aL.s,.slice aL.m.a aL.m.n aL.m.c,.slice aL.d.a aL.d.n aL.d.c] 28 (0,0)):=c3 68 zv _ rfl
 obtain ⟨cW,aT⟩:∃b,cl 68=b:=⟨_,rfl⟩
 rw[aT] at ct
 have b7:PolN cz (⟨some ⟨cW,0,none⟩,2,2⟩:Sl) [((1:Int):Rat),(((-1):Int):Rat)] 2:=pol_lit (L:=[an,aL]) ct (rats2 (bg.ext (aI.t (a4.t (aN.t (ba.t (aZ.t (bJ.t (bb.t (bz.t (be.t (bU.t (a8.t (bC.t (bO.t (bq.t bc))))))))))))))) (cY.ext bc)) rfl yq
 show Calls _ _ #[.slice (some ⟨cl 68,0,none⟩) 2 2,bi.v] _ _
 rw[aT]
 have k79:=k_r5Scale cS b7.raw (cC.ext (a8.t (bC.t (bO.t (bq.t bc))))).raw xq zv xq
 with_reducible refine zPm k79 ?_
 rintro _ u77 bY ⟨aH,rfl,cy⟩
 have hly75:=cy.len
 have cd:PolN _ aH (dwn (((((1:Int):Rat)+e) / (((1:Int):Rat) - e))*(Nt.gr 40 (rtN q n 40:Int)))) 9000:=PolN.more cy xq
 refine zza 18 (.slc 65 0 2 2) (zza 19 (.v (aH.v)) (zzb (zzd (zyp (r:=18) (t:=65) [18,65] xw xj zq zq xj (fun ai dd bX c8 bZ=>?_)))))
 have b0:PolN dd (⟨some ⟨ai,0,none⟩,2,2⟩:Sl) Nt.bp 5:=pol_lit (L:=[an,an]) bZ (rats2 (RatN.more (K:=2) (L:=5) (bg.ext (aI.t (a4.t (aN.t (ba.t (aZ.t (bJ.t (bb.t (bz.t (be.t (bU.t (a8.t (bC.t (bO.t (bq.t (bc.t (bY.t bX))))))))))))))))) xq) (RatN.more (K:=2) (L:=5) (bg.ext (aI.t (a4.t (aN.t (ba.t (aZ.t (bJ.t (bb.t (bz.t (be.t (bU.t (a8.t (bC.t (bO.t (bq.t (bc.t (bY.t bX))))))))))))))))) xq)) rfl yq
 refine zzf (zza 20 (.v (qyn)) (zzb (zzd (sq9 (zza 21 (zI 0) (zzc 124 [(0,zI n),(3,zI 40),(18,.v (.slice (some ⟨ai,0,none⟩) 2 2)),(19,.v (aH.v)),(20,.v (qyn)),(21,zI 0)] [] (zzt (zyn (I:=fun cw S' u'=>∃ (k:Nat) (yp:Sl) (Ss:List Rt),(cw=n / 2 - k)∧(k≤n / 2)∧(S'=St.of 124 [(0,zI n),(3,zI 40),(18,.v (.slice (some ⟨ai,0,none⟩) 2 2)),(19,.v (aH.v)),(20,.v (yp.v)),(21,zI k)] [])∧(Ext u u')∧(MutS 2 45 u.heap.size u' yp (rvs Ss))∧(RtN u' Ss (bwS n (((((1:Int):Rat)+e) / (((1:Int):Rat) - e))*(Nt.gr 40 (rtN q n 40:Int))) k) 150000)∧(PolN u' (⟨some ⟨ai,0,none⟩,2,2⟩:Sl) Nt.bp 5)∧(PolN u' aH (dwn (((((1:Int):Rat)+e) / (((1:Int):Rat) - e))*(Nt.gr 40 (rtN q n 40:Int)))) 9000)) (fun m S u1 u2 e h=>by obtain ⟨k,yp,Ss,hm,p0,hS,hE,f0,f1,f2,f3⟩:=h;exact ⟨k,yp,Ss,hm,p0,hS,hE.trans e,f0.ext e,f1.ext e,f2.ext e,f3.ext e⟩) _ yk ⟨0,sl0,[],rfl,by omega,rfl,(a9.t (bR.t (bV.t (bT.t (bW.t (bS.t (aI.t (a4.t (aN.t (ba.t (aZ.t (bJ.t (bb.t (bz.t (be.t (bU.t (a8.t (bC.t (bO.t (bq.t (bc.t (bY.t bX)))))))))))))))))))))),(MutS.nil _ _ _ _),RtN.nil,b0,(cd.ext bX)⟩ ?_))))))))
 rintro cw _ u86 ⟨k,yp,Ss,cX,hk,rfl,cu,bQ,bj,aS,bt⟩
 have hpn:yp.n=k:=by have h9:=bQ.1;rw[rvs_len,bj.1,bwS_len] at h9;omega
 refine zzd (sq9 (zza 71 (zI k) (zza 72 (zI n) (sy_quo 73 (n:=(n:Int)) (m:=2) ((n / 2:Nat):Int) yq (by rw[Int.tdiv_eq_ediv_of_nonneg xq];exact (IntWalk.i64_in _ xq).trans xq) ?_))))
 refine zza 74 (zB (decide ((k:Int)<((n / 2:Nat):Int)))) (zzb (zzu (b:=decide ((k:Int)<((n / 2:Nat):Int))) xj (fun a7=>?_) (fun a7=>?_)))
 ·have qhb87:=qyt a7
  refine zzs (zzp ?_)
  refine zzd (zzt (sq9 (zza 78 (zI k) (qwi 79 ((2:Int)*(k:Int)) (2*k:Nat) xz (qwi 80 (((2*k:Nat):Int)+1) (((2*k)+1:Nat):Int) xz (zza 81 (zI n) (zza 82 (zI 40) (zzg 83 40 _ fun _ _ aD c1=>qym (k_r10CosPiG (p:=((2*k+1:Nat):Int)) (q:=n) (k:=40) c1 h1 xq xq xq yq (gapQ_80 h1 xq yq)) ?_))))))))
  rintro _ u93 aF ⟨aK,aY,rfl,cp,h92⟩
  refine zza 77 (.v (.tuple #[.agg #[.bool aK.s,aK.m.v,aK.d.v,.bool aY.s,aY.m.v,aY.d.v],.int .i64 0])) (zza 84 (.v (.agg #[.bool aK.s,aK.m.v,aK.d.v,.bool aY.s,aY.m.v,aY.d.v])) (zza 85 (zI 0) (zzk 22 ⟨57,zw6⟩ (zzj ⟨57,aK.cs++aY.cs⟩ ty57 ?_))))
  refine zza 23 (zI 0) (zzb (sq9 (zza 86 (.v (aH.v)) (zza 87 (.v (aH.v)) (zzg 88 42 _ fun _ _ aw db=>qym (k_r5Mul db (bt.ext (aD.t (aF.t aw))).raw (bt.ext (aD.t (aF.t aw))).raw (Nat.le_trans (kk_mono qyl (Nat.mul_le_mul (dwn_len (((((1:Int):Rat)+e) / (((1:Int):Rat) - e))*(Nt.gr 40 (rtN q n 40:Int)))) (dwn_len (((((1:Int):Rat)+e) / (((1:Int):Rat) - e))*(Nt.gr 40 (rtN q n 40:Int)))))) (by decide +kernel)) xq xq (by have h9:=(dwn_len (((((1:Int):Rat)+e) / (((1:Int):Rat) - e))*(Nt.gr 40 (rtN q n 40:Int))));omega) (by have h9:=(dwn_len (((((1:Int):Rat)+e) / (((1:Int):Rat) - e))*(Nt.gr 40 (rtN q n 40:Int))));omega)) ?_)))))
  rintro _ u99 ab ⟨c4,rfl,h98⟩
  replace h98:=PolN.more h98 (Nat.le_trans (kk_mono qyl (Nat.mul_le_mul (dwn_len (((((1:Int):Rat)+e) / (((1:Int):Rat) - e))*(Nt.gr 40 (rtN q n 40:Int)))) (dwn_len (((((1:Int):Rat)+e) / (((1:Int):Rat) - e))*(Nt.gr 40 (rtN q n 40:Int)))))) (by decide +kernel:_≤72014))
  have hly97:=h98.len
  have aR:(trimQ (Nt.mulQ (dwn (((((1:Int):Rat)+e) / (((1:Int):Rat) - e))*(Nt.gr 40 (rtN q n 40:Int)))) (dwn (((((1:Int):Rat)+e) / (((1:Int):Rat) - e))*(Nt.gr 40 (rtN q n 40:Int)))))).length≤3:=zxt (dwn_len (((((1:Int):Rat)+e) / (((1:Int):Rat) - e))*(Nt.gr 40 (rtN q n 40:Int)))) (dwn_len (((((1:Int):Rat)+e) / (((1:Int):Rat) - e))*(Nt.gr 40 (rtN q n 40:Int))))
  have bL:PolN _ c4 (trimQ (Nt.mulQ (dwn (((((1:Int):Rat)+e) / (((1:Int):Rat) - e))*(Nt.gr 40 (rtN q n 40:Int)))) (dwn (((((1:Int):Rat)+e) / (((1:Int):Rat) - e))*(Nt.gr 40 (rtN q n 40:Int)))))) 72014:=PolN.more h98 xq
  refine zza 89 (.v (.slice (some ⟨ai,0,none⟩) 2 2)) (zza 90 (.v (.slice (some ⟨ai,0,none⟩) 2 2)) (zzg 91 42 _ fun _ _ aa b4=>qym (k_r5Mul b4 (aS.ext (aD.t (aF.t (aw.t (ab.t aa))))).raw (aS.ext (aD.t (aF.t (aw.t (ab.t aa))))).raw (Nat.le_trans (kk_mono qyl (Nat.mul_le_mul bp_len bp_len)) (by decide +kernel)) xq xq (by have h9:=bp_len;omega) (by have h9:=bp_len;omega)) ?_))
  rintro _ cI af ⟨cb,rfl,h106⟩
  replace h106:=PolN.more h106 (Nat.le_trans (kk_mono qyl (Nat.mul_le_mul bp_len bp_len)) (by decide +kernel:_≤54))
  have hly105:=h106.len
  have aU:(trimQ (Nt.mulQ Nt.bp Nt.bp)).length≤3:=zxt bp_len bp_len
  have bH:PolN _ cb (trimQ (Nt.mulQ Nt.bp Nt.bp)) 54:=PolN.more h106 xq
  refine zzg 92 41 _ fun _ _ ac ce=>qym (k_r5Add ce (bL.ext (aa.t (af.t ac))).raw (bH.ext ac).raw xq xq (by have h9:=aR;omega) (by have h9:=aU;omega)) ?_
  rintro _ cG ah ⟨aV,rfl,bM⟩
  have hly113:=bM.len
  have aM:(trimQ (addQ (trimQ (Nt.mulQ (dwn (((((1:Int):Rat)+e) / (((1:Int):Rat) - e))*(Nt.gr 40 (rtN q n 40:Int)))) (dwn (((((1:Int):Rat)+e) / (((1:Int):Rat) - e))*(Nt.gr 40 (rtN q n 40:Int)))))) (trimQ (Nt.mulQ Nt.bp Nt.bp)))).length≤3:=add_lenQ aR aU
  have bF:PolN _ aV (trimQ (addQ (trimQ (Nt.mulQ (dwn (((((1:Int):Rat)+e) / (((1:Int):Rat) - e))*(Nt.gr 40 (rtN q n 40:Int)))) (dwn (((((1:Int):Rat)+e) / (((1:Int):Rat) - e))*(Nt.gr 40 (rtN q n 40:Int)))))) (trimQ (Nt.mulQ Nt.bp Nt.bp)))) 72074:=PolN.more bM xq
  refine zza 24 (.v (aV.v)) (zzb (zzd (zzz [0,0,0,6,0,16,0,64,254,510,1023,2047] [(0,[]),(1,[]),(2,[]),(4,[]),(5,[]),(6,[]),(7,[]),(3,[]),(8,[]),(9,[]),(10,[]),(11,[])] xj xj (zza 93 (.v (aV.v)) (zza 94 (.v (aH.v)) (zza 95 (.v (.slice (some ⟨ai,0,none⟩) 2 2)) (zza 97 (.adr 22 0) (zzi 98 (.v (aK.v)) ty28 zze (zza 99 (.adr 22 0) (zzi 100 (.v (aK.v)) ty28 zze (zzg 96 42 _ fun _ _ ae b3=>qym (k_r5Mul b3 (bt.ext (aD.t (aF.t (aw.t (ab.t (aa.t (af.t (ac.t (ah.t ae))))))))).raw (aS.ext (aD.t (aF.t (aw.t (ab.t (aa.t (af.t (ac.t (ah.t ae))))))))).raw (Nat.le_trans (kk_mono qyl (Nat.mul_le_mul (dwn_len (((((1:Int):Rat)+e) / (((1:Int):Rat) - e))*(Nt.gr 40 (rtN q n 40:Int)))) bp_len)) (by decide +kernel)) xq xq (by have h9:=(dwn_len (((((1:Int):Rat)+e) / (((1:Int):Rat) - e))*(Nt.gr 40 (rtN q n 40:Int))));omega) (by have h9:=bp_len;omega)) ?_)))))))))))
  rintro _ cK al ⟨b9,rfl,h122⟩
  replace h122:=PolN.more h122 (Nat.le_trans (kk_mono qyl (Nat.mul_le_mul (dwn_len (((((1:Int):Rat)+e) / (((1:Int):Rat) - e))*(Nt.gr 40 (rtN q n 40:Int)))) bp_len)) (by decide +kernel:_≤36034))
  have hly121:=h122.len
  have aP:(trimQ (Nt.mulQ (dwn (((((1:Int):Rat)+e) / (((1:Int):Rat) - e))*(Nt.gr 40 (rtN q n 40:Int)))) Nt.bp)).length≤3:=zxt (dwn_len (((((1:Int):Rat)+e) / (((1:Int):Rat) - e))*(Nt.gr 40 (rtN q n 40:Int)))) bp_len
  have bP:PolN _ b9 (trimQ (Nt.mulQ (dwn (((((1:Int):Rat)+e) / (((1:Int):Rat) - e))*(Nt.gr 40 (rtN q n 40:Int)))) Nt.bp)) 36034:=PolN.more h122 xq
  refine zzg 101 17 _ fun _ _ ag cf=>qym (k_rqAdd cf (cp.ext (aw.t (ab.t (aa.t (af.t (ac.t (ah.t (ae.t (al.t ag))))))))).raw (cp.ext (aw.t (ab.t (aa.t (af.t (ac.t (ah.t (ae.t (al.t ag))))))))).raw xq xq) ?_
  rintro _ cM ap ⟨cE,rfl,ca⟩
  refine zzg 102 39 _ fun _ _ ak b8=>qym (k_r5Scale b8 (bP.ext (ag.t (ap.t ak))).raw (ca.ext ak).raw xq (by have h9:=aP;omega) xq) ?_
  rintro _ cU au ⟨cj,rfl,bE⟩
  have hly135:=bE.len
  have aQ:(trimQ ((trimQ (Nt.mulQ (dwn (((((1:Int):Rat)+e) / (((1:Int):Rat) - e))*(Nt.gr 40 (rtN q n 40:Int)))) Nt.bp)).map (· * ((bwT n k)+(bwT n k))))).length≤3:=map_lenQ aP
  have bN:PolN _ cj (trimQ ((trimQ (Nt.mulQ (dwn (((((1:Int):Rat)+e) / (((1:Int):Rat) - e))*(Nt.gr 40 (rtN q n 40:Int)))) Nt.bp)).map (· * ((bwT n k)+(bwT n k))))) 36437:=PolN.more bE xq
  refine zzg 103 43 _ fun _ _ aq ck=>qym (k_r5Sub ck (bF.ext (ae.t (al.t (ag.t (ap.t (ak.t (au.t aq))))))).raw (bN.ext aq).raw xq xq (by have h9:=aM;omega) (by have h9:=aQ;omega)) ?_
  rintro _ df ax ⟨ad,rfl,bB⟩
  have hly143:=bB.len
  have cr:(trimQ (addQ (trimQ (addQ (trimQ (Nt.mulQ (dwn (((((1:Int):Rat)+e) / (((1:Int):Rat) - e))*(Nt.gr 40 (rtN q n 40:Int)))) (dwn (((((1:Int):Rat)+e) / (((1:Int):Rat) - e))*(Nt.gr 40 (rtN q n 40:Int)))))) (trimQ (Nt.mulQ Nt.bp Nt.bp)))) (trimQ ((trimQ ((trimQ (Nt.mulQ (dwn (((((1:Int):Rat)+e) / (((1:Int):Rat) - e))*(Nt.gr 40 (rtN q n 40:Int)))) Nt.bp)).map (· * ((bwT n k)+(bwT n k))))).map (· * (((-1):Int):Rat)))))).length≤3:=add_lenQ aM (map_lenQ aQ)
  have bo:PolN _ ad (trimQ (addQ (trimQ (addQ (trimQ (Nt.mulQ (dwn (((((1:Int):Rat)+e) / (((1:Int):Rat) - e))*(Nt.gr 40 (rtN q n 40:Int)))) (dwn (((((1:Int):Rat)+e) / (((1:Int):Rat) - e))*(Nt.gr 40 (rtN q n 40:Int)))))) (trimQ (Nt.mulQ Nt.bp Nt.bp)))) (trimQ ((trimQ ((trimQ (Nt.mulQ (dwn (((((1:Int):Rat)+e) / (((1:Int):Rat) - e))*(Nt.gr 40 (rtN q n 40:Int)))) Nt.bp)).map (· * ((bwT n k)+(bwT n k))))).map (· * (((-1):Int):Rat)))))) 108531:=PolN.more bB xq
  refine zza 24 (.v (ad.v)) (zzc 124 [(0,zI n),(3,zI 40),(18,.v (.slice (some ⟨ai,0,none⟩) 2 2)),(19,.v (aH.v)),(20,.v (yp.v)),(21,zI k),(24,.v (ad.v))] [] (zzf (zza 104 (.v (yp.v)) (zza 105 (.v (.slice (some ⟨ai,0,none⟩) 2 2)) (zza 106 (.v (.slice (some ⟨ai,0,none⟩) 2 2)) (zzg 107 42 _ fun _ _ ar cc=>qym (k_r5Mul cc (aS.ext (aD.t (aF.t (aw.t (ab.t (aa.t (af.t (ac.t (ah.t (ae.t (al.t (ag.t (ap.t (ak.t (au.t (aq.t (ax.t ar))))))))))))))))).raw (aS.ext (aD.t (aF.t (aw.t (ab.t (aa.t (af.t (ac.t (ah.t (ae.t (al.t (ag.t (ap.t (ak.t (au.t (aq.t (ax.t ar))))))))))))))))).raw (Nat.le_trans (kk_mono qyl (Nat.mul_le_mul bp_len bp_len)) (by decide +kernel)) xq xq (by have h9:=bp_len;omega) (by have h9:=bp_len;omega)) ?_))))))
  rintro _ c9 aB ⟨am,rfl,h152⟩
  replace h152:=PolN.more h152 (Nat.le_trans (kk_mono qyl (Nat.mul_le_mul bp_len bp_len)) (by decide +kernel:_≤54))
  have hly151:=h152.len
  have cA:(trimQ (Nt.mulQ Nt.bp Nt.bp)).length≤3:=zxt bp_len bp_len
  have bf:PolN _ am (trimQ (Nt.mulQ Nt.bp Nt.bp)) 54:=PolN.more h152 xq
  refine zza 108 (.v (ad.v)) (zza 109 (.v (.agg #[am.v,ad.v])) (sy_dataF 110 ⟨45,[am.v,ad.v]⟩ 1 (fun cg br ay b6 cQ cJ=>?_)))
  have hA159:=(bQ.ext (aD.t (aF.t (aw.t (ab.t (aa.t (af.t (ac.t (ah.t (ae.t (al.t (ag.t (ap.t (ak.t (au.t (aq.t (ax.t (ar.t (aB.t ay)))))))))))))))))))
  have hN159:=(bj.ext (aD.t (aF.t (aw.t (ab.t (aa.t (af.t (ac.t (ah.t (ae.t (al.t (ag.t (ap.t (ak.t (au.t (aq.t (ax.t (ar.t (aB.t ay)))))))))))))))))))
  have a1:PolN br am nmQ 150000:=(PolN.more (K:=54) (K':=150000) (bf.ext ay) xq)
  have a5:PolN br ad (dnP (((((1:Int):Rat)+e) / (((1:Int):Rat) - e))*(Nt.gr 40 (rtN q n 40:Int))) (bwT n k)) 150000:=by rw[dn_same];exact (PolN.more (K:=108531) (K':=150000) (bo.ext (ar.t (aB.t ay))) xq)
  have hB159:=(aS.ext (aD.t (aF.t (aw.t (ab.t (aa.t (af.t (ac.t (ah.t (ae.t (al.t (ag.t (ap.t (ak.t (au.t (aq.t (ax.t (ar.t (aB.t ay)))))))))))))))))))
  have hC159:=(bt.ext (aD.t (aF.t (aw.t (ab.t (aa.t (af.t (ac.t (ah.t (ae.t (al.t (ag.t (ap.t (ak.t (au.t (aq.t (ax.t (ar.t (aB.t ay)))))))))))))))))))
  refine sy_appS 111 (T:=31) (E:=45) (z:=.agg #[qyn,qyn]) (size:=2) (bytes:=48) (b2:=cg) (off:=0) (m:=1) yp (rvs Ss) [am.v,ad.v] hA159 xj xj xj yq rfl (lit_news ((Ext.refl _).cells b6)) (two_one am ad) yq yv xq (is_two am ad) (is_two sl0 sl0) (fun a6 bn bh cv ao cx=>?_)
  have bA:MutS 2 45 u.heap.size bn a6 (rvs (Ss++[(am,ad)])):=by rw[rvs_app];exact bh
  have bu:RtN bn (Ss++[(am,ad)]) (bwS n (((((1:Int):Rat)+e) / (((1:Int):Rat) - e))*(Nt.gr 40 (rtN q n 40:Int))) (k+1)) 150000:=RtN.snoc (RtN.keep hN159 hA159 ao) (PolN.keepS a1 hA159 ao) (PolN.keepS a5 hA159 ao)
  have eR159:=ExtX.root ao (MutQ.mutL hA159.q) (cu.t (aD.t (aF.t (aw.t (ab.t (aa.t (af.t (ac.t (ah.t (ae.t (al.t (ag.t (ap.t (ak.t (au.t (aq.t (ax.t (ar.t (aB.t ay)))))))))))))))))))
  replace hB159:=PolN.keepS hB159 hA159 ao
  replace hC159:=PolN.keepS hC159 hA159 ao
  refine zza 20 (.v (a6.v)) (zzx ?_)
  refine zzp (zzf (zza 75 (zI k) (qwi 76 ((k:Int)+1) (k+1:Nat) xz (zza 21 (zI (k+1:Nat)) (zzx ?_)))))
  refine ⟨_,?_,_,by exact zzv _ _ _,k+1,a6,(Ss++[(am,ad)]),rfl,by omega,rfl,eR159,bA,bu,hB159,hC159⟩
  omega
 have qhb87:=qyf a7
 refine zyc (zzp (zzd (sq9 (zza 112 (zI n) (sy_rem 113 (n:=(n:Int)) (m:=2) ((n%2:Nat):Int) yq (by rw[Int.tmod_eq_emod_of_nonneg xq];omega) ?_)))))
 refine zza 114 (zB (((n%2:Nat):Int)==1)) (zzb (zzu (b:=((n%2:Nat):Int)==1) xj (fun av=>?_) (fun av=>?_)))
 ·have a3:((n%2:Nat):Int)=1:=by simpa using av
  have b1:n / 2=k:=by omega
  rw[← b1] at bj
  refine zzf (zza 115 (.v (yp.v)) (zza 116 (.v (.slice (some ⟨ai,0,none⟩) 2 2)) (zza 117 (.v (aH.v)) (zza 118 (.v (.slice (some ⟨ai,0,none⟩) 2 2)) (zzg 119 41 _ fun _ _ aC cm=>qym (k_r5Add cm (bt.ext aC).raw (aS.ext aC).raw xq xq (by have h9:=(dwn_len (((((1:Int):Rat)+e) / (((1:Int):Rat) - e))*(Nt.gr 40 (rtN q n 40:Int))));omega) (by have h9:=bp_len;omega)) ?_)))))
  rintro _ c0 aJ ⟨aj,rfl,bv⟩
  have hly162:=bv.len
  have cq:(trimQ (addQ (dwn (((((1:Int):Rat)+e) / (((1:Int):Rat) - e))*(Nt.gr 40 (rtN q n 40:Int)))) Nt.bp)).length≤2:=add_lenQ (dwn_len (((((1:Int):Rat)+e) / (((1:Int):Rat) - e))*(Nt.gr 40 (rtN q n 40:Int)))) bp_len
  have bl:PolN _ aj (trimQ (addQ (dwn (((((1:Int):Rat)+e) / (((1:Int):Rat) - e))*(Nt.gr 40 (rtN q n 40:Int)))) Nt.bp)) 9011:=PolN.more bv xq
  refine zza 120 (.v (.agg #[.slice (some ⟨ai,0,none⟩) 2 2,aj.v])) (sy_dataF 121 ⟨45,[.slice (some ⟨ai,0,none⟩) 2 2,aj.v]⟩ 1 (fun ch bk aG b5 cN cT=>?_))
  have hA170:=(bQ.ext (aC.t (aJ.t aG)))
  have hN170:=(bj.ext (aC.t (aJ.t aG)))
  have a2:PolN bk (⟨some ⟨ai,0,none⟩,2,2⟩:Sl) Nt.bp 150000:=(PolN.more (K:=5) (K':=150000) (aS.ext (aC.t (aJ.t aG))) xq)
  have aX:PolN bk aj (dn1 (((((1:Int):Rat)+e) / (((1:Int):Rat) - e))*(Nt.gr 40 (rtN q n 40:Int)))) 150000:=(PolN.more (K:=9011) (K':=150000) (bl.ext aG) xq)
  refine sy_appS 122 (T:=31) (E:=45) (z:=.agg #[qyn,qyn]) (size:=2) (bytes:=48) (b2:=ch) (off:=0) (m:=1) yp (rvs Ss) [(⟨some ⟨ai,0,none⟩,2,2⟩:Sl).v,aj.v] hA170 xj xj xj yq rfl (lit_news ((Ext.refl _).cells b5)) (two_one (⟨some ⟨ai,0,none⟩,2,2⟩:Sl) aj) yq yv xq (is_two (⟨some ⟨ai,0,none⟩,2,2⟩:Sl) aj) (is_two sl0 sl0) (fun aE bs bK cD aA cB=>?_)
  have bG:MutS 2 45 u.heap.size bs aE (rvs (Ss++[((⟨some ⟨ai,0,none⟩,2,2⟩:Sl),aj)])):=by rw[rvs_app];exact bK
  have bI:RtN bs (Ss++[((⟨some ⟨ai,0,none⟩,2,2⟩:Sl),aj)]) (bwS n (((((1:Int):Rat)+e) / (((1:Int):Rat) - e))*(Nt.gr 40 (rtN q n 40:Int))) (n / 2)++[(Nt.bp,dn1 (((((1:Int):Rat)+e) / (((1:Int):Rat) - e))*(Nt.gr 40 (rtN q n 40:Int))))]) 150000:=RtN.snoc (RtN.keep hN170 hA170 aA) (PolN.keepS a2 hA170 aA) (PolN.keepS aX hA170 aA)
  have eR170:=ExtX.root aA (MutQ.mutL hA170.q) (cu.t (aC.t (aJ.t aG)))
  refine zza 20 (.v (aE.v)) (zzb (sq9 (zza 123 (.v (aE.v)) (zza 8 (.v (aE.v)) (zza 9 (zI 0) (zzb (zzo (ret0 [aE.v,.int .i64 0] ⟨zzq,zzq,trivial⟩ fun c7 bD=>?_))))))))
  have ho:n%2=1:=by have h9:=eq_of_beq av;omega
  exact ⟨aE,(Ss++[((⟨some ⟨ai,0,none⟩,2,2⟩:Sl),aj)]),rfl,(bG.ext bD),by unfold bwSs;rw[if_pos ho];exact (bI.ext bD)⟩
 have a3:¬(((n%2:Nat):Int)=1):=by simpa using av
 refine zzs (zzp ?_)
 refine sq9 (zza 123 (.v (yp.v)) (zza 8 (.v (yp.v)) (zza 9 (zI 0) (zzb (zzo (ret0 [yp.v,.int .i64 0] ⟨zzq,zzq,trivial⟩ fun cF bw=>?_))))))
 have ho:¬n%2=1:=fun h9=>by have h8:=av;rw[h9] at h8;exact absurd h8 yq
 have b1:n / 2=k:=by omega
 exact ⟨yp,Ss,rfl,(bQ.ext bw),by unfold bwSs;rw[if_neg ho,b1];exact (bj.ext bw)⟩
def OkR (k:Nat) (L:List (List Int)):Prop:=∀p∈L,p.length=k∧∀z∈p,-16777216≤z∧z≤16777216
section
variable {L M:List (List Int)} {p:List Int} {k n i j c:Nat} {X:List Value} {a b:Int}
theorem OkR.rows (h:OkR k L):Rows k L:=fun p hp=>(h p hp).1
theorem OkR.mem (h:OkR k L) (hi:i<L.length):(L.getD i []).length=k∧∀z∈L.getD i [],-16777216≤z∧z≤16777216:=by
 have e:L[i]=L.getD i []:=by rw[qyg,List.getElem?_eq_getElem hi];rfl
 rw[← e];exact h _ (List.getElem_mem hi)
theorem OkR.bd (h:OkR k L) (hi:i<L.length) (hj:j<k) : -16777216≤gi L i j∧gi L i j≤16777216:=by
 obtain ⟨h1,h2⟩:=h.mem hi
 refine h2 _ ?_
 show (L.getD i []).getD j 0∈_
 have hj':j<(L.getD i []).length:=by omega
 generalize L.getD i []=q at *
 rw[qyg,List.getElem?_eq_getElem hj']
 exact List.getElem_mem hj'
theorem OkR.set (h:OkR k L) (hp:p.length=k) (hz:∀z∈p,-16777216≤z∧z≤16777216):OkR k (L.set i p):=fun q hq=>by
 rcases List.mem_or_eq_of_mem_set hq with hq | rfl
 ·exact h q hq
 exact ⟨hp,hz⟩
theorem OkR.set2 (h:OkR 2 L) (ha : -16777216≤a∧a≤16777216) (hb : -16777216≤b∧b≤16777216):OkR 2 (L.set i [a,b]):=h.set rfl (fun z hz=>by
 simp at hz
 rcases hz with rfl | rfl
 ·exact ha
 exact hb)
theorem OkR.erase (h:OkR k L):OkR k (L.eraseIdx n):=fun q hq=>h q (List.mem_of_mem_eraseIdx hq)
theorem OkR.drop (h:OkR k L):OkR k (L.drop n):=fun q hq=>h q (List.mem_of_mem_drop hq)
theorem setL_mid {A B C V:List Value} (hV:V.length=B.length) {m:Nat} (hm:m=A.length):setL (A++(B++C)) m V=A++(V++C):=by
 subst hm
 unfold setL
 rw[List.take_left' rfl,hV,← List.append_assoc A B C,List.drop_left' zv]
 simp
theorem del_rows {zs:List Value} (h:Rows k L) (hi:i<L.length) (hz:zs.length=k) {off:Nat} (hoff:i+1<L.length→off=(i+1)*k) :
  ((kcs L++X).drop off).take ((L.length - (i+1))*k)=kcs (L.drop (i+1))∧setL (setL (kcs L++X) (i*k) (kcs (L.drop (i+1)))) ((L.length - 1)*k) zs=kcs (L.eraseIdx i)++(zs++X):=by
 have hl:=kcs_len h
 have hdl:=kcs_len (h.drop (n:=i+1))
 rw[List.length_drop] at hdl
 have htl:(kcs (L.take i)).length=i*k:=by rw[← kcs_take h,List.length_take,hl];exact Nat.min_eq_left (Nat.mul_le_mul_right _ (Nat.le_of_lt hi))
 constructor
 ·by_cases e:i+1<L.length
  ·have h1:(i+1)*k≤L.length*k:=Nat.mul_le_mul_right _ hi
   rw[hoff e,List.drop_append_of_le_length xq,kcs_drop h,List.take_append_of_le_length xq,List.take_of_length_le xq]
  have e0:L.length - (i+1)=0:=by omega
  rw[e0,Nat.zero_mul,List.take_zero,List.drop_of_length_le xq];rfl
 have e1:kcs L=kcs (L.take i)++(kcs (L.drop i)):=by rw[← kcs_app,List.take_append_drop]
 have hB:kcs (L.drop i)=(kcs (L.drop i)).take ((L.length - (i+1))*k)++(kcs (L.drop i)).drop ((L.length - (i+1))*k):=(List.take_append_drop _ _).symm
 have hdi:=kcs_len (h.drop (n:=i))
 rw[List.length_drop] at hdi
 have e3:(L.length - i)*k=(L.length - (i+1))*k+k:=by rw[← Nat.succ_mul];congr 1;omega
 have hT:((kcs (L.drop i)).drop ((L.length - (i+1))*k)).length=k:=by rw[List.length_drop,hdi,e3];omega
 have hB1:((kcs (L.drop i)).take ((L.length - (i+1))*k)).length=(L.length - (i+1))*k:=by rw[List.length_take,hdi,e3];omega
 generalize ((kcs (L.drop i)).drop ((L.length - (i+1))*k))=T at *
 generalize ((kcs (L.drop i)).take ((L.length - (i+1))*k))=B at *
 rw[e1,hB,List.append_assoc,List.append_assoc,setL_mid (by rw[hdl,hB1]) htl.symm,← List.append_assoc,setL_mid (by rw[hz,hT]) (by rw[List.length_append,htl,hdl,← Nat.add_mul];congr 1;omega),← kcs_app,List.eraseIdx_eq_take_drop_succ]
end
namespace Nt
def az (z:Int):Int:=(z.natAbs:Int)
def cmpZ (a0 a1 b0 b1:Int):Int:=if az a1=az b1 then az b0 - az a0 else az b1 - az a1
def swapR (L:List (List Int)) (j:Nat):List (List Int):=(L.set j [gi L (j - 1) 0,gi L (j - 1) 1]).set (j - 1) [gi L j 0,gi L j 1]
def insR (L:List (List Int)):Nat→List (List Int)
 | 0=>L
 | j+1=>if cmpZ (gi L (j+1) 0) (gi L (j+1) 1) (gi L j 0) (gi L j 1)<0 then insR (swapR L (j+1)) j else L
def outR (L:List (List Int)) (i:Nat):Nat→List (List Int)
 | 0=>L
 | m+1=>outR (insR L i) (i+1) m
def sortR (L:List (List Int)):List (List Int):=outR L 1 (L.length - 1)
def distZ (b1 b2 a0 a1:Int):Int:=az (b1 - a0)+az (b2 - a1)
def bestR (Z:List (List Int)) (a0 a1:Int):Nat→Nat
 | 0=>0
 | n+1=>if distZ (gi Z n 1) (gi Z n 2) a0 a1<distZ (gi Z (bestR Z a0 a1 n) 1) (gi Z (bestR Z a0 a1 n) 2) a0 a1 then n else bestR Z a0 a1 n
def pairR:List (List Int)→List (List Int)→List (List Int)→List (List Int)
 | [],_,acc=>acc
 | a::D,Z,acc=>pairR D (Z.eraseIdx (bestR Z (a.getD 0 0) (a.getD 1 0) Z.length)) ([gi Z (bestR Z (a.getD 0 0) (a.getD 1 0) Z.length) 0,gi Z (bestR Z (a.getD 0 0) (a.getD 1 0) Z.length) 1,gi Z (bestR Z (a.getD 0 0) (a.getD 1 0) Z.length) 2,a.getD 0 0,a.getD 1 0]::acc)
variable {L Z:List (List Int)} {n i j:Nat} {a0 a1 z:Int}
theorem swapR_len:(swapR L j).length=L.length:=by simp[swapR]
theorem swapR_ok (h:OkR 2 L) (hj:j<L.length) (h0:0<j):OkR 2 (swapR L j):=by
 unfold swapR
 exact (h.set2 (h.bd xq yq) (h.bd xq yq)).set2 (h.bd hj yq) (h.bd hj yq)
theorem insR_len:(insR L j).length=L.length:=by
 induction j generalizing L with
 | zero=>rfl
 | succ j ih =>
  unfold insR
  split
  ·rw[ih,swapR_len]
  rfl
theorem insR_ok (h:OkR 2 L) (hj:j<L.length):OkR 2 (insR L j):=by
 induction j generalizing L with
 | zero=>exact h
 | succ j ih =>
  unfold insR
  split
  ·exact ih (swapR_ok h hj xq) (by rw[swapR_len];omega)
  exact h
theorem outR_len {m:Nat}:(outR L i m).length=L.length:=by
 induction m generalizing L i with
 | zero=>rfl
 | succ m ih=>unfold outR;rw[ih,insR_len]
theorem outR_ok {m:Nat} (h:OkR 2 L) (hm:i+m≤L.length):OkR 2 (outR L i m):=by
 induction m generalizing L i with
 | zero=>exact h
 | succ m ih=>unfold outR;exact ih (insR_ok h xq) (by rw[insR_len];omega)
theorem sortR_len:(sortR L).length=L.length:=outR_len
theorem sortR_ok (h:OkR 2 L) (h0:0<L.length):OkR 2 (sortR L):=outR_ok h xq
theorem insR_go (h0:0<j) (h:cmpZ (gi L j 0) (gi L j 1) (gi L (j - 1) 0) (gi L (j - 1) 1)<0):insR L j=insR (swapR L j) (j - 1):=by
 obtain ⟨k,rfl⟩:∃k,j=k+1:=⟨j - 1,by omega⟩
 rw[Nat.add_sub_cancel] at h
 show (if _ then _ else _)=_
 rw[if_pos h,Nat.add_sub_cancel]
theorem insR_stop (h:0<j→¬cmpZ (gi L j 0) (gi L j 1) (gi L (j - 1) 0) (gi L (j - 1) 1)<0):insR L j=L:=by
 cases j with
 | zero=>rfl
 | succ k =>
  show (if _ then _ else _)=_
  have:=h xq
  rw[Nat.add_sub_cancel] at this
  rw[if_neg this]
theorem outR_step (h:i<n):outR L i (n - i)=outR (insR L i) (i+1) (n - (i+1)):=by
 obtain ⟨m,hm⟩:∃m,n - i=m+1:=⟨n - i - 1,by omega⟩
 rw[hm,show n - (i+1)=m by omega];rfl
theorem bestR_lt (h:0<n):bestR Z a0 a1 n<n:=by
 induction n with
 | zero=>omega
 | succ n ih =>
  unfold bestR
  split
  ·omega
  cases n with
  | zero=>show 0<1;omega
  | succ n=>have:=ih xq;omega
theorem best_yes (h:distZ (gi Z n 1) (gi Z n 2) a0 a1<distZ (gi Z (bestR Z a0 a1 n) 1) (gi Z (bestR Z a0 a1 n) 2) a0 a1):bestR Z a0 a1 (n+1)=n:=by
 show (if _ then _ else _)=_
 rw[if_pos h]
theorem best_no (h:¬distZ (gi Z n 1) (gi Z n 2) a0 a1<distZ (gi Z (bestR Z a0 a1 n) 1) (gi Z (bestR Z a0 a1 n) 2) a0 a1):bestR Z a0 a1 (n+1)=bestR Z a0 a1 n:=by
 show (if _ then _ else _)=_
 rw[if_neg h]
theorem az_bd (h0 : -1000000000≤z) (h1:z≤1000000000):0≤az z∧az z≤1000000000:=by unfold az;omega
theorem dist_bd {b1 b2:Int} (h1 : -16777216≤b1∧b1≤16777216) (h2 : -16777216≤b2∧b2≤16777216) (h3 : -16777216≤a0∧a0≤16777216) (h4 : -16777216≤a1∧a1≤16777216):0≤distZ b1 b2 a0 a1∧distZ b1 b2 a0 a1≤67108864:=by unfold distZ az;omega
theorem fill_back {z:List Int} {acc:List (List Int)} (hi:i<n) (x:List Int):(List.replicate (n - i) z++acc).set (n - 1 - i) x=List.replicate (n - (i+1)) z++(x::acc):=by
 rw[show n - i=(n - (i+1))+1 by omega,List.replicate_succ',List.append_assoc]
 rw[List.set_append_right _ _ yy,List.length_replicate,show n - 1 - i - (n - (i+1))=0 by omega]
 rfl
theorem pairR_step {D acc:List (List Int)} (hi:i<D.length):pairR (D.drop i) Z acc=pairR (D.drop (i+1)) (Z.eraseIdx (bestR Z (gi D i 0) (gi D i 1) Z.length)) ([gi Z (bestR Z (gi D i 0) (gi D i 1) Z.length) 0,gi Z (bestR Z (gi D i 0) (gi D i 1) Z.length) 1,gi Z (bestR Z (gi D i 0) (gi D i 1) Z.length) 2,gi D i 0,gi D i 1]::acc):=by
 rw[List.drop_eq_getElem_cons hi]
 have e:D[i]=D.getD i []:=by rw[qyg,List.getElem?_eq_getElem hi];rfl
 show pairR (D.drop (i+1)) _ _=_
 rw[e];rfl
end Nt
theorem k_csize {u w:World} {z:Int} (d:Dat u w) (h0 : -1000000000≤z) (h1:z≤1000000000):qyc 110 #[.int .i64 z] w (Post u w fun v _=>v=.int .i64 (az z)):=by
 refine zzm Tryz.func110 rfl Tryz.ntmps110 Tryz.results110 d ?_
 refine sq9 (zza 2 (zI 0) (zzb (sq9 (zza 3 (zI z) (zza 4 (zI z) (qwi 5 (0 - z) (-z) xz (sy_maxN 6 (n:=z) (m := -z) (v:=az z) (by unfold az;split<;>omega) ?_)))))))
 refine zza 2 (zI (az z)) (zzb (zzo (ret0 [.int .i64 (az z)] ⟨zzq,trivial⟩ fun u11 e12=>?_)))
 rfl
theorem k_cdist {u w:World} {b0 b1 b2 a0 a1:Int} (d:Dat u w) (hb1 : -16777216≤b1∧b1≤16777216) (hb2 : -16777216≤b2∧b2≤16777216) (ha0 : -16777216≤a0∧a0≤16777216) (ha1 : -16777216≤a1∧a1≤16777216):qyc 112 #[.agg #[.int .i64 b0,.int .i64 b1,.int .i64 b2],.agg #[.int .i64 a0,.int .i64 a1]] w (Post u w fun v _=>v=.int .i64 (distZ b1 b2 a0 a1)):=by
 refine zzm Tryz.func112 rfl Tryz.ntmps112 Tryz.results112 d ?_
 refine sq9 (zzk 2 ⟨69,[.int .i64 b0,.int .i64 b1,.int .i64 b2]⟩ (zzk 3 ⟨71,[.int .i64 a0,.int .i64 a1]⟩ (zza 4 (zI 0) (zzb (zzd (zzz [0,1,0,4,15,31,0,64,0,256,960,2047,4095,8191] [(0,[]),(1,[]),(2,[]),(3,[]),(4,[]),(6,[]),(7,[]),(8,[]),(9,[]),(10,[]),(5,[]),(11,[]),(12,[]),(13,[])] xj xj (zza 5 (.adr 2 1) (zzi 6 (zI b1) ty3 zzl (zza 7 (.adr 3 0) (zzi 8 (zI a0) ty3 zzl (zyq 9 (x:=zI (IntKind.i64.wrap (b1 - a0))) (zI (b1 - a0)) yw ?_)))))))))))
 refine zza 11 (.adr 2 2) (zzi 12 (zI b2) ty3 zzl (zza 13 (.adr 3 1) (zzi 14 (zI a1) ty3 zzl (zyq 15 (x:=zI (IntKind.i64.wrap (b2 - a1))) (zI (b2 - a1)) yw (zzg 10 110 _ fun _ _ _ aa=>qym (k_csize (z:=b1 - a0) aa xq xq) ?_)))))
 rintro _ u12 g13 rfl
 have haz15:=az_bd (z:=b1 - a0) xq xq
 refine zzg 16 110 _ fun _ _ _ ab=>qym (k_csize (z:=b2 - a1) ab xq xq) ?_
 rintro _ u17 g18 rfl
 have haz20:=az_bd (z:=b2 - a1) xq xq
 refine zyq 17 (x:=zI (IntKind.i64.wrap ((az (b1 - a0))+(az (b2 - a1))))) (zI ((az (b1 - a0))+(az (b2 - a1)))) yw (zza 4 (zI ((az (b1 - a0))+(az (b2 - a1)))) (zzb (zzo (ret0 [.int .i64 ((az (b1 - a0))+(az (b2 - a1)))] ⟨zzq,trivial⟩ fun u21 e22=>?_))))
 rfl
theorem k_ccmp {u w:World} {a0 a1 b0 b1:Int} (d:Dat u w) (ha0 : -16777216≤a0∧a0≤16777216) (ha1 : -16777216≤a1∧a1≤16777216) (hb0 : -16777216≤b0∧b0≤16777216) (hb1 : -16777216≤b1∧b1≤16777216):qyc 109 #[.agg #[.int .i64 a0,.int .i64 a1],.agg #[.int .i64 b0,.int .i64 b1]] w (Post u w fun v _=>v=.int .i64 (cmpZ a0 a1 b0 b1)):=by
 refine zzm Tryz.func109 rfl Tryz.ntmps109 Tryz.results109 d ?_
 refine sq9 (zzk 2 ⟨71,[.int .i64 a0,.int .i64 a1]⟩ (zzk 3 ⟨71,[.int .i64 b0,.int .i64 b1]⟩ (zza 4 (zI 0) (zzb (zzd (zzd (zzz [0,1,3,0,8,31,63] [(0,[]),(1,[]),(3,[]),(4,[]),(2,[]),(5,[]),(6,[])] xj xj (zza 5 (.adr 2 1) (zzi 6 (zI a1) ty3 zzl (zza 8 (.adr 3 1) (zzi 9 (zI b1) ty3 zzl ?_)))))))))))
 refine zzg 7 110 _ fun _ _ _ ab=>qym (k_csize (z:=a1) ab xq xq) ?_
 rintro _ u12 g13 rfl
 have haz15:=az_bd (z:=a1) xq xq
 refine zzg 10 110 _ fun _ _ _ ag=>qym (k_csize (z:=b1) ag xq xq) ?_
 rintro _ u17 g18 rfl
 have haz20:=az_bd (z:=b1) xq xq
 refine zza 11 (zB ((az a1) != (az b1))) (zzb (zzu (b:=(az a1) != (az b1)) xj (fun aa=>?_) (fun aa=>?_)))
 ·have qhb21:=aa
  simp at qhb21
  refine zzd (zzz [0,1,3,0,8,31,63,127] [(0,[]),(1,[]),(3,[]),(4,[]),(2,[]),(5,[]),(6,[]),(7,[])] xj xj (zza 12 (.adr 3 1) (zzi 13 (zI b1) ty3 zzl (zza 15 (.adr 2 1) (zzi 16 (zI a1) ty3 zzl (zzg 14 110 _ fun _ _ _ ac=>qym (k_csize (z:=b1) ac xq xq) ?_))))))
  rintro _ u23 g24 rfl
  have haz26:=az_bd (z:=b1) xq xq
  refine zzg 17 110 _ fun _ _ _ af=>qym (k_csize (z:=a1) af xq xq) ?_
  rintro _ u28 g29 rfl
  have haz31:=az_bd (z:=a1) xq xq
  refine zyq 18 (x:=zI (IntKind.i64.wrap ((az b1) - (az a1)))) (zI ((az b1) - (az a1))) yw (zza 4 (zI ((az b1) - (az a1))) (zzb (zzo (zzw (ret0 [.int .i64 ((az b1) - (az a1))] ⟨zzq,trivial⟩ fun u32 e33=>?_)))))
  show Value.int _ _=Value.int _ _
  unfold cmpZ
  rw[if_neg qhb21]
 have qhb21:=aa
 simp at qhb21
 refine zzs (zzp ?_)
 refine zzd (zzz [0,1,3,0,8,31,63,127] [(0,[]),(1,[]),(3,[]),(4,[]),(2,[]),(5,[]),(6,[]),(7,[])] xj xj (zza 19 (.adr 3 0) (zzi 20 (zI b0) ty3 zzl (zza 22 (.adr 2 0) (zzi 23 (zI a0) ty3 zzl (zzg 21 110 _ fun _ _ _ ae=>qym (k_csize (z:=b0) ae xq xq) ?_))))))
 rintro _ u35 g36 rfl
 have haz38:=az_bd (z:=b0) xq xq
 refine zzg 24 110 _ fun _ _ _ ad=>qym (k_csize (z:=a0) ad xq xq) ?_
 rintro _ u40 g41 rfl
 have haz43:=az_bd (z:=a0) xq xq
 refine zyq 25 (x:=zI (IntKind.i64.wrap ((az b0) - (az a0)))) (zI ((az b0) - (az a0))) yw (zza 4 (zI ((az b0) - (az a0))) (zzb (zzo (ret0 [.int .i64 ((az b0) - (az a0))] ⟨zzq,trivial⟩ fun u44 e45=>?_))))
 show Value.int _ _=Value.int _ _
 unfold cmpZ
 rw[if_pos qhb21]
theorem k_cins {u w:World} {g n c:Nat} {L:List (List Int)} {X:List Value} (d:Dat u w) (hg:w.heap[g]? = some (.cells (kcs L++X).toArray 71 (0,0))) (hu:u.heap[g]? = some hidO) (hL:OkR 2 L) (hLn:L.length=n) (hn9:n≤1000):qyc 195 #[.slice (some ⟨g,0,none⟩) n c,.int .i64 0,.int .i64 (n:Int),.func (.func 109) #[] #[]] w (PostL u w g fun V u'=>V=⟨71,kcs (sortR L)++X⟩):=by
 refine calls_lent (args:=[.int .i64 0,.int .i64 (n:Int),.func (.func 109) #[] #[]]) Tryz.func195 rfl Tryz.ntmps195 Tryz.results195 (le_b rfl) d hg hu ?_
 refine sq9 (zza 10 (zI 0) (zza 11 (zI 1) (zza 8 (zI 1) (zzb (zzt (zyn (I:=fun ai S' u'=>∃ (i:Nat) (L':List (List Int)),(ai=n - i)∧(1≤i)∧(OkR 2 L')∧(L'.length=n)∧(outR L' i (n - i)=sortR L)∧(S'=St.of 53 [(0,.slc 53 0 n c),(1,zI 0),(2,zI n),(3,.v (.func (.func 109) #[] #[])),(8,zI i)] [(53,⟨71,kcs L'++X⟩)])∧(Ext u u')) (fun m S u1 u2 e h=>by obtain ⟨i,L',hm,p0,p1,p2,p3,hS,hE⟩:=h;exact ⟨i,L',hm,p0,p1,p2,p3,hS,hE.trans e⟩) _ yk ⟨1,L,rfl,Nat.le_refl _,hL,hLn,(by rw[← hLn];rfl),rfl,(Ext.refl _)⟩ ?_))))))
 rintro ai _ am ⟨i,L',ap,hi,hL',hLn',hOut,rfl,al⟩
 refine zzd (sq9 (zza 12 (zI i) (zza 13 (zI n) (zza 14 (zB (decide ((i:Int)<(n:Int)))) (zzb (zzu (b:=decide ((i:Int)<(n:Int))) xj (fun aa=>?_) (fun aa=>?_)))))))
 ·have qhb12:=qyt aa
  refine zzs (zzp ?_)
  refine zzd (zzt (sq9 (zza 17 (zI i) (zza 9 (zI i) (zzb (zzt (zyn (I:=fun aj S' u'=>∃ (j:Nat) (M:List (List Int)),(aj=j)∧(j<n)∧(OkR 2 M)∧(M.length=n)∧(insR M j=insR L' i)∧(S'=St.of 53 [(0,.slc 53 0 n c),(1,zI 0),(2,zI n),(3,.v (.func (.func 109) #[] #[])),(8,zI i),(9,zI j)] [(53,⟨71,kcs M++X⟩)])∧(Ext am u')) (fun m S u1 u2 e h=>by obtain ⟨j,M,hm,p0,p1,p2,p3,hS,hE⟩:=h;exact ⟨j,M,hm,p0,p1,p2,p3,hS,hE.trans e⟩) _ yk ⟨i,L',rfl,by omega,hL',hLn',rfl,rfl,(Ext.refl _)⟩ ?_)))))))
  rintro aj _ u13 ⟨j,M,ao,hj,hM,hMn,hIns,rfl,ag⟩
  refine zzd (zzd (zzz [0,0,3,7,15,15,15,111,239,15,15,1039,3599,7695,16383,32767,65535] [(0,[]),(1,[]),(2,[]),(3,[]),(4,[]),(5,[]),(6,[]),(7,[]),(8,[]),(9,[]),(10,[]),(11,[]),(12,[]),(13,[]),(14,[]),(15,[]),(16,[])] xj xj (zza 18 (zI j) (zza 19 (zI 0) (zza 20 (zB (decide ((0:Int)<(j:Int)))) ?_)))))
  rcases Bool.eq_false_or_eq_true (decide ((0:Int)<(j:Int))) with hs14 | hs14
  ·refine qbi 21 hs14 ?_
   have qhs14:=qyt hs14
   refine zza 22 (.v (.func (.func 109) #[] #[])) ?_ (hw:=w1 3 true 21)
   refine zza 23 (.slc 53 0 n c) ?_ (hw:=w1 3 true 21)
   refine zza 24 (zI j) ?_ (hw:=w1 3 true 21)
   refine zyw 25 (off':=j*2) (n:=n) (off:=0) (sz:=2) (i:=(j:Int)) sl72 xq xq xq ?_ (hw:=w1 3 true 21)
   refine zzi 26 (V:=⟨71,kcs M++X⟩) (off:=j*2) (.v (.agg #[.int .i64 (gi M j 0),.int .i64 (gi M j 1)])) ty71 (part_k2 (OkR.rows hM) (i:=j) (by rw[hMn];omega) rfl) ?_ (hw:=w1 3 true 21)
   have hz150:=OkR.bd hM (i:=j) (j:=0) (by rw[hMn];omega) yq
   have hz151:=OkR.bd hM (i:=j) (j:=1) (by rw[hMn];omega) yq
   refine zza 27 (.slc 53 0 n c) ?_ (hw:=w1 3 true 21)
   refine zza 28 (zI j) ?_ (hw:=w1 3 true 21)
   refine qwi 29 ((j:Int) - 1) (j - 1:Nat) xz ?_ (hw:=w1 3 true 21)
   refine zyw 30 (off':=(j - 1)*2) (n:=n) (off:=0) (sz:=2) (i:=((j - 1:Nat):Int)) sl72 xq xq xq ?_ (hw:=w1 3 true 21)
   refine zzi 31 (V:=⟨71,kcs M++X⟩) (off:=(j - 1)*2) (.v (.agg #[.int .i64 (gi M (j - 1) 0),.int .i64 (gi M (j - 1) 1)])) ty71 (part_k2 (OkR.rows hM) (i:=j - 1) (by rw[hMn];omega) rfl) ?_ (hw:=w1 3 true 21)
   have hz160:=OkR.bd hM (i:=j - 1) (j:=0) (by rw[hMn];omega) yq
   have hz161:=OkR.bd hM (i:=j - 1) (j:=1) (by rw[hMn];omega) yq
   refine zzg 32 109 _ (fun _ _ ah an=>qym (k_ccmp (a0:=gi M j 0) (a1:=gi M j 1) (b0:=gi M (j - 1) 0) (b1:=gi M (j - 1) 1) an xq xq xq xq) ?_) (hw:=w1 3 true 21)
   rintro _ u18 ak rfl
   refine zza 33 (zB (decide ((cmpZ (gi M j 0) (gi M j 1) (gi M (j - 1) 0) (gi M (j - 1) 1))<0))) ?_ (hw:=w1 3 true 21)
   refine zza 34 (zB (decide ((cmpZ (gi M j 0) (gi M j 1) (gi M (j - 1) 0) (gi M (j - 1) 1))<0))) (zzc 53 [(0,.slc 53 0 n c),(1,zI 0),(2,zI n),(3,.v (.func (.func 109) #[] #[])),(8,zI i),(9,zI j),(34,zB (decide ((cmpZ (gi M j 0) (gi M j 1) (gi M (j - 1) 0) (gi M (j - 1) 1))<0)))] [(53,⟨71,kcs M++X⟩)] (zzu (b:=decide ((cmpZ (gi M j 0) (gi M j 1) (gi M (j - 1) 0) (gi M (j - 1) 1))<0)) xj (fun ac=>?_) (fun ac=>?_)))
   ·have qhb21:=qyt ac
    refine zzs (zzp ?_)
    refine zzd (zzt (zzz [0,0,0,0,8,0,0,64,224,480,0,0,3072,7168,16355,32739,65535,131071] [(0,[]),(1,[]),(2,[]),(3,[]),(4,[]),(5,[]),(6,[]),(7,[]),(8,[]),(9,[]),(10,[]),(11,[]),(12,[]),(13,[]),(14,[]),(15,[]),(16,[]),(17,[])] xj xj (zza 37 (.slc 53 0 n c) (zza 38 (zI j) (zza 39 (.slc 53 0 n c) (zza 40 (zI j) (qwi 41 ((j:Int) - 1) (j - 1:Nat) xz (zza 42 (.slc 53 0 n c) (zza 43 (zI j) (qwi 44 ((j:Int) - 1) (j - 1:Nat) xz (zyw 45 (off':=(j - 1)*2) (n:=n) (off:=0) (sz:=2) (i:=((j - 1:Nat):Int)) sl72 xq xq xq ?_)))))))))))
    refine zzi 46 (V:=⟨71,kcs M++X⟩) (off:=(j - 1)*2) (.v (.agg #[.int .i64 (gi M (j - 1) 0),.int .i64 (gi M (j - 1) 1)])) ty71 (part_k2 (OkR.rows hM) (i:=j - 1) (by rw[hMn];omega) rfl) ?_
    have hz220:=OkR.bd hM (i:=j - 1) (j:=0) (by rw[hMn];omega) yq
    have hz221:=OkR.bd hM (i:=j - 1) (j:=1) (by rw[hMn];omega) yq
    refine zza 47 (.slc 53 0 n c) (zza 48 (zI j) (zyw 49 (off':=j*2) (n:=n) (off:=0) (sz:=2) (i:=(j:Int)) sl72 xq xq xq ?_))
    refine zzi 50 (V:=⟨71,kcs M++X⟩) (off:=j*2) (.v (.agg #[.int .i64 (gi M j 0),.int .i64 (gi M j 1)])) ty71 (part_k2 (OkR.rows hM) (i:=j) (by rw[hMn];omega) rfl) ?_
    have hz230:=OkR.bd hM (i:=j) (j:=0) (by rw[hMn];omega) yq
    have hz231:=OkR.bd hM (i:=j) (j:=1) (by rw[hMn];omega) yq
    refine zyw 51 (off':=j*2) (n:=n) (off:=0) (sz:=2) (i:=(j:Int)) sl72 xq xq xq ?_
    have ad:OkR 2 (M.set j [gi M (j - 1) 0,gi M (j - 1) 1]):=(OkR.set2 hM xq xq)
    have ab:(M.set j [gi M (j - 1) 0,gi M (j - 1) 1]).length=n:=(by rw[List.length_set];exact hMn)
    refine zyv (V:=⟨71,kcs M++X⟩) (off:=j*2) (kcs (M.set j [gi M (j - 1) 0,gi M (j - 1) 1])++X) ty71 (by rw[List.length_append,kcs_len (OkR.rows hM),hMn];omega) (setL_k2 (OkR.rows hM) (i:=j) (by rw[hMn];omega) rfl) ?_
    refine zyw 52 (off':=(j - 1)*2) (n:=n) (off:=0) (sz:=2) (i:=((j - 1:Nat):Int)) sl72 xq xq xq ?_
    have af:OkR 2 ((M.set j [gi M (j - 1) 0,gi M (j - 1) 1]).set (j - 1) [gi M j 0,gi M j 1]):=(OkR.set2 ad xq xq)
    have ae:((M.set j [gi M (j - 1) 0,gi M (j - 1) 1]).set (j - 1) [gi M j 0,gi M j 1]).length=n:=(by rw[List.length_set];exact ab)
    refine zyv (V:=⟨71,kcs (M.set j [gi M (j - 1) 0,gi M (j - 1) 1])++X⟩) (off:=(j - 1)*2) (kcs ((M.set j [gi M (j - 1) 0,gi M (j - 1) 1]).set (j - 1) [gi M j 0,gi M j 1])++X) ty71 (by rw[List.length_append,kcs_len (OkR.rows ad),ab];omega) (setL_k2 (OkR.rows ad) (i:=j - 1) (by rw[ab];omega) rfl) ?_
    refine zzx ?_
    refine zzp (zzf (zza 35 (zI j) (qwi 36 ((j:Int) - 1) (j - 1:Nat) xz (zza 9 (zI (j - 1:Nat)) (zzx ?_)))))
    refine ⟨_,?_,_,by exact zzv _ _ _,j - 1,((M.set j [gi M (j - 1) 0,gi M (j - 1) 1]).set (j - 1) [gi M j 0,gi M j 1]),rfl,by omega,af,ae,(by rw[← hIns,insR_go xq qhb21];rfl),rfl,(ag.t (ah.t ak.ext))⟩
    omega
   have qhb21:=qyf ac
   refine zyc (zzp (zzf (zza 15 (zI i) (qwi 16 ((i:Int)+1) (i+1:Nat) xz (zza 8 (zI (i+1:Nat)) (zzx ?_))))))
   refine ⟨_,?_,_,by exact zzv _ _ _,i+1,M,rfl,by omega,hM,hMn,(by have h9:=hOut;rw[outR_step xq,← hIns,insR_stop (fun _=>qhb21)] at h9;exact h9),rfl,(al.t (ag.t (ah.t ak.ext)))⟩
   omega
  refine qbi 21 hs14 ?_
  have qhs14:=qyf hs14
  refine zzn 22 (uw 3 true false 21) (zzn 23 (uw 3 true false 21) (zzn 24 (uw 3 true false 21) (zzn 25 (uw 3 true false 21) (zzn 26 (uw 3 true false 21) (zzn 27 (uw 3 true false 21) (zzn 28 (uw 3 true false 21) (zzn 29 (uw 3 true false 21) (zzn 30 (uw 3 true false 21) (zzn 31 (uw 3 true false 21) (zzn 32 (uw 3 true false 21) (zzn 33 (uw 3 true false 21) ?_)))))))))))
  refine zza 34 (zB false) (zzb (zys xj (zyc (zzp (zzf (zza 15 (zI i) (qwi 16 ((i:Int)+1) (i+1:Nat) xz (zza 8 (zI (i+1:Nat)) (zzx ?_)))))))))
  refine ⟨_,?_,_,by exact zzv _ _ _,i+1,M,rfl,by omega,hM,hMn,(by have h9:=hOut;rw[outR_step xq,← hIns,insR_stop (fun h9=>absurd h9 xq)] at h9;exact h9),rfl,(al.trans ag)⟩
  omega
 have qhb12:=qyf aa
 refine zyc ?_
 refine lent_end (V:=⟨71,kcs L'++X⟩) rfl rfl (fun _ _=>?_)
 have h9:=hOut
 rw[show n - i=0 by omega] at h9
 rw[← h9];rfl
theorem k_cstable {u w:World} {g n c:Nat} {L:List (List Int)} {X:List Value} (d:Dat u w) (hg:w.heap[g]? = some (.cells (kcs L++X).toArray 71 (0,0))) (hu:u.heap[g]? = some hidO) (hL:OkR 2 L) (hLn:L.length=n) (hn0:0<n∧n≤12):qyc 164 #[.slice (some ⟨g,0,none⟩) n c,.int .i64 (n:Int),.func (.func 109) #[] #[]] w (PostL u w g fun V u'=>V=⟨71,kcs (sortR L)++X⟩):=by
 refine calls_lent (args:=[.int .i64 (n:Int),.func (.func 109) #[] #[]]) Tryz.func164 rfl Tryz.ntmps164 Tryz.results164 (le_b rfl) d hg hu ?_
 refine sq9 (zza 6 (zI 20) (zzb (sq9 (zza 10 (zI 20) (zza 7 (zI 0) (zza 8 (zI 20) (zzb (zzd (zzt (sw_rounds 0 ?_))))))))))
 refine zzd (sq9 (zza 11 (zI 20) (zza 12 (zI n) (zza 13 (zB (decide ((20:Int)≤(n:Int)))) (zzb (zzu (b:=decide ((20:Int)≤(n:Int))) xj (fun hb=>?_) (fun hb=>?_)))))))
 ·exact absurd hb (by rw[show (decide ((20:Int)≤(n:Int)))=false from decide_eq_false xq];decide)
 clear hb
 refine zyc (zzp (sq9 (zza 23 (.slc 63 0 n c) (zza 24 (zI 0) (zza 25 (zI n) (zza 26 (.v (.func (.func 109) #[] #[])) ?_))))))
 have kc11:=fun (g:Nat) (w u1:World) (e:Ext u u1) (d:Dat u1 w) (hg:w.heap[g]? = some (.cells (kcs L++X).toArray 71 (0,0))) (hu:u1.heap[g]? = some hidO)=>k_cins (n:=n) (c:=c) d hg hu hL hLn xq
 refine sy_lend 27 195 (t:=63) (V:=⟨71,kcs L++X⟩) (len:=n) (cap:=c) [.int .i64 0,.int .i64 n,.func (.func 109) #[] #[]] xj kc11 ?_
 clear kc11
 rintro _ u11 e11 rfl
 refine zzc 63 [(0,.slc 63 0 n c),(1,zI n),(2,.v (.func (.func 109) #[] #[])),(6,zI 20)] [(63,⟨71,kcs (sortR L)++X⟩)] (zzt (sw_rounds 0 ?_))
 refine zzd (sq9 (zza 28 (zI 20) (zza 29 (zI n) (zza 30 (zB (decide ((20:Int)<(n:Int)))) (zzb (zzu (b:=decide ((20:Int)<(n:Int))) xj (fun hb=>?_) (fun hb=>?_)))))))
 ·exact absurd hb (by rw[show (decide ((20:Int)<(n:Int)))=false from decide_eq_false xq];decide)
 clear hb
 refine zyc ?_
 exact lent_end rfl rfl (fun _ _=>rfl)
theorem k_csort {u w:World} {g n c:Nat} {L:List (List Int)} {X:List Value} (d:Dat u w) (hg:w.heap[g]? = some (.cells (kcs L++X).toArray 71 (0,0))) (hu:u.heap[g]? = some hidO) (hL:OkR 2 L) (hLn:L.length=n) (hn0:0<n∧n≤12):qyc 108 #[.slice (some ⟨g,0,none⟩) n c,.func (.func 109) #[] #[]] w (PostL u w g fun V u'=>V=⟨71,kcs (sortR L)++X⟩):=by
 refine calls_lent (args:=[.func (.func 109) #[] #[]]) Tryz.func108 rfl Tryz.ntmps108 Tryz.results108 (le_b rfl) d hg hu ?_
 refine zzf (zza 4 (.slc 9 0 n c) (zza 5 (.slc 9 0 n c) (zza 6 (zI n) (zza 7 (.v (.func (.func 109) #[] #[])) ?_))))
 have kc11:=fun (g:Nat) (w u1:World) (e:Ext u u1) (d:Dat u1 w) (hg:w.heap[g]? = some (.cells (kcs L++X).toArray 71 (0,0))) (hu:u1.heap[g]? = some hidO)=>k_cstable (n:=n) (c:=c) d hg hu hL hLn xq
 refine sy_lend 8 164 (t:=9) (V:=⟨71,kcs L++X⟩) (len:=n) (cap:=c) [.int .i64 n,.func (.func 109) #[] #[]] xj kc11 ?_
 clear kc11
 rintro _ u11 e11 rfl
 refine zzx ?_
 exact lent_end rfl rfl (fun _ _=>rfl)
theorem k_clone2 {u w:World} {x:Sl} {L:List (List Int)} (d:Dat u w) (hx:IrV 2 u x L) (h0:0<L.length) (h9:L.length≤1000000000):qyc 107 #[x.v] w (Post u w fun v u'=>∃ (b c:Nat) (X:List Value),v=.slice (some ⟨b,0,none⟩) x.n c∧u.heap.size≤b∧u'.heap[b]? = some (.cells (kcs L++X).toArray 71 (0,0))∧(kcs L++X).length=c*2∧x.n≤c∧c≤maxLen):=by
 have hn:=hx.len
 obtain ⟨xa,n0,c0⟩:=x
 obtain ⟨hR,h1,h2,h3,h4⟩:=hx
 change n0=L.length at hn
 obtain ⟨b0,o0,e,hb0,hc⟩:=h4 (by show 0<n0;omega)
 change xa=_ at e
 subst e
 change Calls _ _ #[.slice (some ⟨b0,o0,none⟩) n0 c0] _ _
 refine zzm Tryz.func107 rfl Tryz.ntmps107 Tryz.results107 d ?_
 refine sq9 (zza 2 (.v (qyn)) (zzb (zzd (sq9 (zza 3 (.v (.slice (some ⟨b0,o0,none⟩) n0 c0)) (zza 4 (zB false) (zzb (zys xj (zzs (zzp ?_))))))))))
 refine sq9 (sy_lit 5 ⟨71,[]⟩ 0 ?_)
 refine zza 6 (.v (.slice (some ⟨b0,o0,none⟩) n0 c0)) (sy_app1 7 (T:=72) (E:=71) (z:=.agg #[.int .i64 0,.int .i64 0]) (size:=2) (bytes:=16) (b:=b0) (off:=o0) (m:=n0) (c:=c0) (n:=0) (cap:=0) (t:=5) (cs0:=[]) [5,7] (kcs L) xj xj xj yq (by rw[kcs_len hR,hn]) (fun j v hv=>by have h9:=(List.getElem?_eq_some_iff.1 hv).1;rw[kcs_len hR] at h9;rw[hc j h9];exact hv) kcs_one xq yv xq xq yq rfl xw ?_)
 intro c1 cs k1 k2 k3 k4
 refine zza 2 (.slc 7 0 (0+n0) c1) (zzc 8 [(2,.slc 7 0 (0+n0) c1)] [(7,⟨71,cs⟩)] (zyp (r:=2) (t:=7) [2,7] xw xj zq zq xj (fun b u2 e2 hb hh=>?_)))
 refine zzo (ret0 [.slice (some ⟨b,0,none⟩) (0+n0) c1] ⟨zzq,trivial⟩ fun u11 aa=>?_)
 rw[Nat.zero_add] at k1 k4
 change cs.take (n0*2)=kcs L at k4
 have e9:cs=kcs L++cs.drop (n0*2):=by rw[← k4];exact (List.take_append_drop (n0*2) cs).symm
 refine ⟨b,c1,cs.drop (n0*2),?_,hb,?_,by rw[← e9];exact k3,k1,k2⟩
 ·show Value.slice _ (0+n0) _=_;rw[Nat.zero_add]
 rw[← e9];exact aa.cells hh
theorem k_clone3 {u w:World} {x:Sl} {L:List (List Int)} (d:Dat u w) (hx:IrV 3 u x L) (h0:0<L.length) (h9:L.length≤1000000000):qyc 111 #[x.v] w (Post u w fun v u'=>∃ (b c:Nat) (X:List Value),v=.slice (some ⟨b,0,none⟩) x.n c∧u.heap.size≤b∧u'.heap[b]? = some (.cells (kcs L++X).toArray 69 (0,0))∧(kcs L++X).length=c*3∧x.n≤c∧c≤maxLen):=by
 have hn:=hx.len
 obtain ⟨xa,n0,c0⟩:=x
 obtain ⟨hR,h1,h2,h3,h4⟩:=hx
 change n0=L.length at hn
 obtain ⟨b0,o0,e,hb0,hc⟩:=h4 (by show 0<n0;omega)
 change xa=_ at e
 subst e
 change Calls _ _ #[.slice (some ⟨b0,o0,none⟩) n0 c0] _ _
 refine zzm Tryz.func111 rfl Tryz.ntmps111 Tryz.results111 d ?_
 refine sq9 (zza 2 (.v (qyn)) (zzb (zzd (sq9 (zza 3 (.v (.slice (some ⟨b0,o0,none⟩) n0 c0)) (zza 4 (zB false) (zzb (zys xj (zzs (zzp ?_))))))))))
 refine sq9 (sy_lit 5 ⟨69,[]⟩ 0 ?_)
 refine zza 6 (.v (.slice (some ⟨b0,o0,none⟩) n0 c0)) (sy_app1 7 (T:=70) (E:=69) (z:=.agg #[.int .i64 0,.int .i64 0,.int .i64 0]) (size:=3) (bytes:=24) (b:=b0) (off:=o0) (m:=n0) (c:=c0) (n:=0) (cap:=0) (t:=5) (cs0:=[]) [5,7] (kcs L) xj xj xj yq (by rw[kcs_len hR,hn]) (fun j v hv=>by have h9:=(List.getElem?_eq_some_iff.1 hv).1;rw[kcs_len hR] at h9;rw[hc j h9];exact hv) kcs_one xq yv xq xq yq rfl xw ?_)
 intro c1 cs k1 k2 k3 k4
 refine zza 2 (.slc 7 0 (0+n0) c1) (zzc 8 [(2,.slc 7 0 (0+n0) c1)] [(7,⟨69,cs⟩)] (zyp (r:=2) (t:=7) [2,7] xw xj zq zq xj (fun b u2 e2 hb hh=>?_)))
 refine zzo (ret0 [.slice (some ⟨b,0,none⟩) (0+n0) c1] ⟨zzq,trivial⟩ fun u11 aa=>?_)
 rw[Nat.zero_add] at k1 k4
 change cs.take (n0*3)=kcs L at k4
 have e9:cs=kcs L++cs.drop (n0*3):=by rw[← k4];exact (List.take_append_drop (n0*3) cs).symm
 refine ⟨b,c1,cs.drop (n0*3),?_,hb,?_,by rw[← e9];exact k3,k1,k2⟩
 ·show Value.slice _ (0+n0) _=_;rw[Nat.zero_add]
 rw[← e9];exact aa.cells hh
def Nt.smallB (l:List Int):Bool:=decide (∀j,j<l.length → -16777216≤l.getD j 0∧l.getD j 0≤16777216)
theorem Nt.smallB_of {k i:Nat} {L:List (List Int)} (h:OkR k L) (hi:i<L.length):smallB (L.getD i [])=true:=decide_eq_true (fun j hj=>by
 have h9:=h.bd hi (j:=j) (by rw[(h.mem hi).1] at hj;exact hj)
 exact h9)
theorem k_cwithin {u w:World} {x:Sl} {l:List Int} (d:Dat u w) (hx:SlR .i64 u x.a x.n x.c l) (hb:∀z∈l,-9223372036854775808≤z∧z≤9223372036854775807):qyc 106 #[x.v] w (Post u w fun v _=>v=.bool (smallB l)):=by
 have hlen:l.length=x.n:=hx.1
 have hmx8:=Nat.le_trans hx.2.1 hx.2.2.1
 unfold maxLen at hmx8
 refine zzm Tryz.func106 rfl Tryz.ntmps106 Tryz.results106 d ?_
 refine sq9 (zza 2 (zB false) (zzb (zzd (sq9 (zza 5 (.v (x.v)) (zza 6 (zI x.n) (zza 7 (zI 0) (zzb (zzt (zyn (I:=fun ag S' u'=>∃ (i:Nat),(ag=x.n - i)∧(i≤x.n)∧(∀j,j<i → -16777216≤l.getD j 0∧l.getD j 0≤16777216)∧(S'=St.of 18 [(5,.v (x.v)),(6,zI x.n),(7,zI i)] [])∧(Ext u u')) (fun m S u1 u2 e h=>by obtain ⟨i,hm,p0,p1,hS,hE⟩:=h;exact ⟨i,hm,p0,p1,hS,hE.trans e⟩) _ yk ⟨0,rfl,Nat.zero_le _,fun j hj=>absurd hj (Nat.not_lt_zero j),rfl,(Ext.refl _)⟩ ?_))))))))))
 rintro ag _ u11 ⟨i,ah,hi,hs,rfl,ae⟩
 refine sq9 (zza 8 (zB (decide ((i:Int)<(x.n:Int)))) (zzb (zzd (zzu (b:=decide ((i:Int)<(x.n:Int))) xj (fun ab=>?_) (fun ab=>?_)))))
 ·have qhb12:=qyt ab
  refine zzs (zzp ?_)
  refine zzd (zzt (sq9 ?_))
  have hl13:=((hx.ext ae)).1
  obtain ⟨b13,af,ac,ad⟩:=ints_at (hx.ext ae) (i:=i) xq
  have hz13:=ints_bd hb xq i
  refine zya 9 (af+i*1) (n:=x.n) (off:=af) (sz:=1) (i:=(i:Int)) xq ac xq xq sl22 (zyl 10 (.int .i64 (l.getD i 0)) ad ty3 (zza 4 (zI (l.getD i 0)) (zzb (sq9 (zza 11 (zI (l.getD i 0)) (zza 12 (zB (decide ((l.getD i 0)<(-16777216)))) ?_))))))
  rcases Bool.eq_false_or_eq_true (decide ((l.getD i 0)<(-16777216))) with hs14 | hs14
  ·refine qbi 13 hs14 ?_
   have qhs14:=qyt hs14
   refine zzn 14 (uw 2 false true 13) (zzn 15 (uw 2 false true 13) (zza 16 (zB true) (zzb (zyr xj (sq9 (zza 2 (zB false) (zzb (zzo (zyu (zzw (zyt (zyu (zzw (ret0 [.bool false] ⟨zzq,trivial⟩ fun u15 e16=>?_))))))))))))))
   show Value.bool _=Value.bool _
   congr 1
   exact (decide_eq_false (fun k=>by have h9:=k i xq;omega)).symm
  refine qbi 13 hs14 ?_
  have qhs14:=qyf hs14
  refine zza 14 (zI (l.getD i 0)) ?_ (hw:=w1 2 false 13)
  refine zza 15 (zB (decide ((16777216:Int)<(l.getD i 0)))) ?_ (hw:=w1 2 false 13)
  refine zza 16 (zB (decide ((16777216:Int)<(l.getD i 0)))) (zzb (zzu (b:=decide ((16777216:Int)<(l.getD i 0))) xj (fun aa=>?_) (fun aa=>?_)))
  ·have qhb17:=qyt aa
   refine sq9 (zza 2 (zB false) (zzb (zzo (zyu (zzw (zyt (zyu (zzw (ret0 [.bool false] ⟨zzq,trivial⟩ fun u18 e19=>?_)))))))))
   show Value.bool _=Value.bool _
   congr 1
   exact (decide_eq_false (fun k=>by have h9:=k i xq;omega)).symm
  have qhb17:=qyf aa
  refine zzs (zzp ?_)
  refine zzf (qwi 17 ((i:Int)+1) (i+1:Nat) xz (zza 7 (zI (i+1:Nat)) (zzx ?_)))
  refine ⟨_,?_,_,by exact zzv _ _ _,i+1,rfl,by omega,(fun j hj=>by by_cases e:j=i;(rw[e];omega);exact hs j xq),rfl,ae⟩
  omega
 have qhb12:=qyf ab
 refine zyc (zzp (sq9 (zza 2 (zB true) (zzb (zzo (ret0 [.bool true] ⟨zzq,trivial⟩ fun u20 e21=>?_))))))
 show Value.bool _=Value.bool _
 congr 1
 exact (decide_eq_true (fun j hj=>hs j xq)).symm
theorem k_cdelete {u w:World} {g n c i:Nat} {L:List (List Int)} {X:List Value} (d:Dat u w) (hg:w.heap[g]? = some (.cells (kcs L++X).toArray 69 (0,0))) (hu:u.heap[g]? = some hidO) (hL:OkR 3 L) (hLn:L.length=n) (hcl:(kcs L++X).length=c*3) (hi:i<n) (hnc:n≤c) (hn9:n≤1000):qyc 113 #[.slice (some ⟨g,0,none⟩) n c,.int .i64 (i:Int),.int .i64 ((i+1:Nat):Int)] w (PostS u w g c fun m V u'=>m=n - 1∧∃X',V=⟨69,kcs (L.eraseIdx i)++X'⟩∧(kcs (L.eraseIdx i)++X').length=c*3):=by
 refine calls_lentS (args:=[.int .i64 (i:Int),.int .i64 ((i+1:Nat):Int)]) Tryz.func113 rfl Tryz.ntmps113 Tryz.results113 (le_b rfl) d hg hu ?_
 refine sq9 (zza 6 (.v (qyn)) (zzb (sq9 (zza 8 (.slc 33 0 n c) (zza 9 (zI i) (zza 10 (zI (i+1:Nat)) (zza 11 (.slc 33 0 n c) (zza 12 (zI n) (sy_subO3 13 (off:=0) (n:=n) (c:=c) i (i+1) n sl70 rfl rfl rfl xq xq xq (fun o11 ac=>?_))))))))))
 refine zzc 33 [(0,.slc 33 0 n c),(1,zI i),(2,zI (i+1:Nat))] [(33,⟨69,kcs L++X⟩)] (zzd (sq9 (zza 14 (zI i) (zza 15 (zI (i+1:Nat)) (zza 16 (zB ((i:Int)==((i+1:Nat):Int))) (zzb (zzu (b:=(i:Int)==((i+1:Nat):Int)) xj (fun hb=>?_) (fun hb=>?_))))))))
 ·exact absurd hb (by rw[show ((i:Int)==((i+1:Nat):Int))=false from yy];decide)
 clear hb
 refine zzs (zzp ?_)
 refine sq9 (zza 18 (.slc 33 0 n c) (zza 19 (zI n) (zza 7 (zI n) (zzc 33 [(0,.slc 33 0 n c),(1,zI i),(2,zI (i+1:Nat)),(7,zI n)] [(33,⟨69,kcs L++X⟩)] (zzd (sw_anyC [0,0,3,0,0,24,63,127] [(0,[]),(1,[]),(2,[]),(3,[]),(4,[]),(5,[]),(6,[])] [(7,[])] xj xj xj ?_))))))
 refine zza 20 (.slc 33 0 n c) (zza 21 (zI i) (sy_frontO 22 (n:=n) (c:=c) i sl70 rfl xq ?_))
 refine zza 23 (.slc 33 0 n c) (zza 24 (zI (i+1:Nat)) (sy_tailO 25 (off:=0) (n:=n) (c:=c) (i+1) sl70 rfl xq xq (fun ab aa=>?_)))
 have hdl:=del_rows (X:=X) (zs:=ics [0,0,0]) (OkR.rows hL) (i:=i) xq rfl (off:=ab) (fun h9=>by rw[aa,if_neg xq];omega)
 refine sy_appT 26 (T:=70) (E:=69) (z:=.agg #[.int .i64 0,.int .i64 0,.int .i64 0]) (size:=3) (bytes:=24) (off:=ab) (m:=n - (i+1)) (c:=c - (i+1)) (t:=33) (n:=i) (cap:=c) (cs0:=kcs L++X) (ns:=kcs (L.drop (i+1))) xj xj hcl (by rw[aa,hcl];split<;>omega) xq (by have h9:=hdl.1;rw[hLn] at h9;exact h9) kcs_one ?_
 refine zzx ?_
 refine sy_over 0 (.slc 33 0 (i+(n - (i+1))) c) (zzc 33 [(0,.slc 33 0 (i+(n - (i+1))) c),(7,zI n)] [(33,⟨69,setL (kcs L++X) (i*3) (kcs (L.drop (i+1)))⟩)] (sq9 (zza 27 (.slc 33 0 (i+(n - (i+1))) c) (zza 28 (.slc 33 0 (i+(n - (i+1))) c) (zza 29 (zI ((i+(n - (i+1)):Nat):Int)) (zza 30 (zI n) (sy_subO2 31 (off:=0) (n:=(i+(n - (i+1)))) (c:=c) (i+(n - (i+1))) n sl70 rfl rfl xq xq (fun o9 ad=>?_))))))))
 have e9:o9=(L.length - 1)*3:=by rw[ad,if_neg xq,hLn];omega
 refine sy_clear1 (T:=70) (E:=69) (z:=.agg #[.int .i64 0,.int .i64 0,.int .i64 0]) (size:=3) (bytes:=24) (off:=o9) (m:=n - (i+(n - (i+1)))) (c:=c - (i+(n - (i+1)))) (t:=33) (cs0:=setL (kcs L++X) (i*3) (kcs (L.drop (i+1)))) (zs:=ics [0,0,0]) xj xj xq xj (by rw[e9,setL_length (by rw[kcs_len (OkR.drop hL).rows,List.length_drop,hcl,hLn];omega),hcl];show _+3≤_;omega) ics_one ?_
 rw[e9,hdl.2]
 refine zzc 33 [(0,.slc 33 0 (i+(n - (i+1))) c)] [(33,⟨69,kcs (L.eraseIdx i)++(ics [0,0,0]++X)⟩)] (sq9 (zza 32 (.slc 33 0 (i+(n - (i+1))) c) (zza 6 (.slc 33 0 (i+(n - (i+1))) c) (zzc 33 [(6,.slc 33 0 (i+(n - (i+1))) c)] [(33,⟨69,kcs (L.eraseIdx i)++(ics [0,0,0]++X)⟩)] (zzo (lentS_ret (V:=⟨69,kcs (L.eraseIdx i)++(ics [0,0,0]++X)⟩) (i+(n - (i+1))) rfl rfl zzq (fun _ _=>⟨by omega,ics [0,0,0]++X,rfl,?_⟩)))))))
 rw[List.length_append,kcs_len (OkR.erase hL).rows,List.length_eraseIdx,if_pos xq,List.length_append,hLn]
 rw[List.length_append,kcs_len hL.rows,hLn] at hcl
 show _+(3+_)=_;omega
instance {k:Nat} {L:List (List Int)}:Decidable (OkR k L):=by unfold OkR;exact inferInstance
instance {k:Nat} {L:List (List Int)}:Decidable (Rows k L):=by unfold Rows;exact inferInstance
theorem okR_fill {A:List (List Int)} {m:Nat} (h:OkR 5 A):OkR 5 (List.replicate m [0,0,0,0,0]++A):=fun p hp=>by
 rcases List.mem_append.1 hp with hp | hp
 ·rw[(List.mem_replicate.1 hp).2];decide
 exact h p hp
theorem okR_cons5 {A:List (List Int)} {a b c d e:Int} (h:OkR 5 A) (ha : -16777216≤a∧a≤16777216) (hb : -16777216≤b∧b≤16777216) (hc : -16777216≤c∧c≤16777216) (hd : -16777216≤d∧d≤16777216) (he : -16777216≤e∧e≤16777216):OkR 5 ([a,b,c,d,e]::A):=fun p hp=>by
 rcases List.mem_cons.1 hp with rfl | hp
 ·refine ⟨rfl,fun z hz=>?_⟩
  simp at hz
  rcases hz with rfl | rfl | rfl | rfl | rfl
  ·exact ha
  ·exact hb
  ·exact hc
  ·exact hd
  exact he
 exact h p hp
theorem Nt.best_in {Z:List (List Int)} {a b:Int} {n j:Nat} (h:0<n) (hj:j≤n):bestR Z a b j<n:=by
 cases j with
 | zero=>exact h
 | succ j=>have:=bestR_lt (Z:=Z) (a0:=a) (a1:=b) (n:=j+1) xq;omega
theorem k_cpair {u w:World} {x y:Sl} {Z D:List (List Int)} (d:Dat u w) (hx:IrV 3 u x Z) (hy:IrV 2 u y D) (hZ:OkR 3 Z) (hD:OkR 2 D) (hl:Z.length=D.length) (h0:0<D.length) (h8:D.length≤8):qyc 44 #[x.v,y.v] w (Post u w fun v u'=>∃z:Sl,v=.tuple #[z.v,.int .i64 0]∧IrV 5 u' z (pairR (sortR D) Z [])):=by
 have hlx:=hx.len
 have hly:=hy.len
 obtain ⟨ya,yn,yc⟩:=y
 change yn=D.length at hly
 obtain rfl:yn=x.n:=by omega
 refine zzm Tryz.func44 rfl Tryz.ntmps44 Tryz.results44 d ?_
 refine sq9 (zza 4 (.v (qyn)) (zza 5 (zI 0) (zzb (zzd (sq9 (zza 14 (.v (x.v)) (zza 15 (zI x.n) (zza 16 (.v (.slice ya x.n yc)) (zza 17 (zI x.n) (zza 18 (zB ((x.n:Int) != (x.n:Int))) (zyq 19 (x:=zB ((x.n:Int) != (x.n:Int))) (zB false) (by rw[show ((x.n:Int) != (x.n:Int))=false from (by first | (simp;done) | (simp;omega))]) ?_)))))))))))
 refine zza 20 (.v (x.v)) ?_ (hw:=w1 5 false 19)
 refine zza 21 (zI x.n) ?_ (hw:=w1 5 false 19)
 refine zza 22 (zB (decide ((x.n:Int)<1))) ?_ (hw:=w1 5 false 19)
 refine zza 23 (zB (decide ((x.n:Int)<1))) (zyq 24 (x:=zB (decide ((x.n:Int)<1))) (zB false) (by rw[show (decide ((x.n:Int)<1))=false from decide_eq_false xq]) (zza 25 (.v (x.v)) ?_ (hw:=w1 10 false 24)))
 refine zza 26 (zI x.n) ?_ (hw:=w1 10 false 24)
 refine zza 27 (zB (decide ((8:Int)<(x.n:Int)))) ?_ (hw:=w1 10 false 24)
 refine zza 28 (zB (decide ((8:Int)<(x.n:Int)))) (zzb (zzu (b:=decide ((8:Int)<(x.n:Int))) xj (fun hb=>?_) (fun hb=>?_)))
 ·exact absurd hb (by rw[show (decide ((8:Int)<(x.n:Int)))=false from decide_eq_false xq];decide)
 clear hb
 refine zzs (zzp ?_)
 refine zzd (sq9 (zza 29 (.v (x.v)) (zza 30 (zI x.n) (zza 31 (zI 0) (zzb (zzt (zyn (I:=fun aO S' u'=>∃ (i:Nat),(aO=x.n - i)∧(i≤x.n)∧(S'=St.of 105 [(0,.v (x.v)),(1,.v (.slice ya x.n yc)),(30,zI x.n),(31,zI i)] [])∧(Ext u u')) (fun m S u1 u2 e h=>by obtain ⟨i,hm,p0,hS,hE⟩:=h;exact ⟨i,hm,p0,hS,hE.trans e⟩) _ yk ⟨0,rfl,Nat.zero_le _,rfl,(Ext.refl _)⟩ ?_)))))))
 rintro aO _ u13 ⟨i,bv,hi,rfl,ad⟩
 refine sq9 (zza 32 (zB (decide ((i:Int)<(x.n:Int)))) (zzb (zzd (zzu (b:=decide ((i:Int)<(x.n:Int))) xj (fun ag=>?_) (fun ag=>?_)))))
 ·have qhb14:=qyt ag
  refine zzs (zzp ?_)
  refine zzd (zzt (sq9 (zza 33 (zI i) (zza 6 (zI i) (zzb (sq9 (zza 34 (.v (x.v)) (zza 35 (zI i) ?_))))))))
  have hl15:=((hx.ext ad)).len
  obtain ⟨aI,aq,aD,aw⟩:=ir_row (hx.ext ad) (i:=i) xq yv
  refine zya 36 (aq+i*3) (n:=x.n) (off:=aq) (sz:=3) (i:=(i:Int)) xq aD xq xq sl70 (zza 37 (.v (.slice (some ⟨aI,aq+i*3,none⟩) 3 3)) (zzg 38 106 _ fun _ _ au bk=>qym ((show Calls _ _ #[.slice (some ⟨aI,aq+i*3,none⟩) 3 3] _ _ from k_cwithin (x:=(⟨some ⟨aI,aq+i*3,none⟩,3,3⟩:Sl)) bk (aw.ext au) (fun z hz=>by have h9:=(OkR.mem hZ (i:=i) xq).2 z hz;omega))) ?_))
  rintro _ u17 aL rfl
  refine zza 39 (zB (!(smallB (Z.getD i [])))) (zyq 40 (x:=zB (!(smallB (Z.getD i [])))) (zB false) (by rw[show (!(smallB (Z.getD i [])))=false from (by rw[smallB_of hZ xq];rfl)]) (zza 41 (.v (.slice ya x.n yc)) ?_ (hw:=w1 6 false 40)))
  refine zza 42 (zI i) ?_ (hw:=w1 6 false 40)
  have hl21:=((hy.ext (ad.t (au.t aL.ext)))).len
  change x.n=_ at hl21
  obtain ⟨aH,an,aF,aK⟩:=ir_row (hy.ext (ad.t (au.t aL.ext))) (i:=i) xq yv
  refine zya 43 (an+i*2) (n:=x.n) (off:=an) (sz:=2) (i:=(i:Int)) xq aF xq xq sl72 ?_ (hw:=w1 6 false 40)
  refine zza 44 (.v (.slice (some ⟨aH,an+i*2,none⟩) 2 2)) ?_ (hw:=w1 6 false 40)
  refine zzg 45 106 _ (fun _ _ aU bu=>qym ((show Calls _ _ #[.slice (some ⟨aH,an+i*2,none⟩) 2 2] _ _ from k_cwithin (x:=(⟨some ⟨aH,an+i*2,none⟩,2,2⟩:Sl)) bu (aK.ext aU) (fun z hz=>by have h9:=(OkR.mem hD (i:=i) xq).2 z hz;omega))) ?_) (hw:=w1 6 false 40)
  rintro _ u23 be rfl
  refine zza 46 (zB (!(smallB (D.getD i [])))) ?_ (hw:=w1 6 false 40)
  refine zza 47 (zB (!(smallB (D.getD i [])))) (zzc 105 [(0,.v (x.v)),(1,.v (.slice ya x.n yc)),(30,zI x.n),(31,zI i),(47,zB (!(smallB (D.getD i []))))] [] (zzu (b := !(smallB (D.getD i []))) xj (fun hb=>?_) (fun hb=>?_)))
  ·exact absurd hb (by rw[show (!(smallB (D.getD i [])))=false from (by rw[smallB_of hD xq];rfl)];decide)
  clear hb
  refine zzs (zzp ?_)
  refine zzf (qwi 48 ((i:Int)+1) (i+1:Nat) xz (zza 31 (zI (i+1:Nat)) (zzx ?_)))
  refine ⟨_,?_,_,by exact zzv _ _ _,i+1,rfl,by omega,rfl,(ad.t (au.t (aL.t (aU.t be.ext))))⟩
  omega
 have qhb14:=qyf ag
 refine zyc (zzp (sq9 (zza 49 (.v (.slice ya x.n yc)) (zzg 50 107 _ fun _ _ ar br=>qym (k_clone2 br (hy.ext (ad.trans ar)) xq xq) ?_))))
 rintro _ u35 aY ⟨a8,aa,ac,rfl,ae,av,aW,aN,aR⟩
 refine zza 7 (.v (.slice (some ⟨a8,0,none⟩) x.n aa)) (zzb (zzd (sw_adopt (r:=7) (k:=50) (cs:=kcs D++ac) zq av (Nat.le_trans ((ad.trans ar).size) ae) xj (fun bg ao=>?_))))
 refine zzf (zza 51 (.slc 50 0 x.n aa) ?_)
 have kc40:=fun (g:Nat) (w u1:World) (e:Ext bg u1) (d:Dat u1 w) (hg:w.heap[g]? = some (.cells (kcs D++ac).toArray 71 (0,0))) (hu:u1.heap[g]? = some hidO)=>k_csort (n:=x.n) (c:=aa) d hg hu hD (show D.length=x.n by omega) xq
 refine sy_lend 52 108 (t:=50) (V:=⟨71,kcs D++ac⟩) (len:=x.n) (cap:=aa) [.func (.func 109) #[] #[]] xj kc40 ?_
 clear kc40
 rintro _ u40 aX rfl
 refine zzc 105 [(0,.v (x.v)),(7,.slc 50 0 x.n aa)] [(50,⟨71,kcs (sortR D)++ac⟩)] (sq9 (zza 53 (.v (x.v)) (zzg 54 111 _ fun _ _ aQ bs=>qym (k_clone3 bs (hx.ext (ad.trans (ar.trans ((ExtB.old ao aY.ext ae).trans (aX.trans aQ))))) xq xq) ?_)))
 rintro _ u50 g51 ⟨bx,ab,ax,rfl,aG,ay,ak,a2,aM⟩
 refine zza 8 (.v (.slice (some ⟨bx,0,none⟩) x.n ab)) (zzb (zzd (sw_adopt (r:=8) (k:=54) (cs:=kcs Z++ax) zq ay (Nat.le_trans ((ad.trans (ar.trans ((ExtB.old ao aY.ext ae).trans (aX.trans aQ)))).size) aG) xj (fun bc bh=>?_))))
 refine zzf (zza 55 (.slc 50 0 x.n aa) (zza 56 (zI x.n) (sy_make 57 (T:=66) (E:=74) (z:=.agg #[.int .i64 0,.int .i64 0,.int .i64 0,.int .i64 0,.int .i64 0]) (size:=5) (bytes:=40) x.n (kcs (List.replicate x.n [0,0,0,0,0]++[])++[]) xj xj rfl rfl xq yv (by rw[List.append_nil,List.append_nil];exact made_k (z:=[0,0,0,0,0]) rfl yq _) ?_)))
 refine zza 9 (.slc 57 0 x.n x.n) (zzc 105 [(7,.slc 50 0 x.n aa),(8,.slc 54 0 x.n ab),(9,.slc 57 0 x.n x.n)] [(50,⟨71,kcs (sortR D)++ac⟩),(54,⟨69,kcs Z++ax⟩),(57,⟨74,kcs (List.replicate x.n [0,0,0,0,0]++[])++[]⟩)] (zzd (sq9 (zza 58 (.slc 50 0 x.n aa) (zza 59 (zI x.n) (zza 60 (zI 0) (zzb (zzt (zyn (I:=fun aZ S' u'=>∃ (i:Nat) (Z':List (List Int)) (X':List Value) (A':List (List Int)),(aZ=x.n - i)∧(i≤x.n)∧(OkR 3 Z')∧(Z'.length=x.n - i)∧((kcs Z'++X').length=ab*3)∧(OkR 5 A')∧(A'.length=i)∧(pairR ((sortR D).drop i) Z' A'=pairR (sortR D) Z [])∧(S'=St.of 105 [(7,.slc 50 0 x.n aa),(8,.slc 54 0 (x.n - i) ab),(9,.slc 57 0 x.n x.n),(58,.slc 50 0 x.n aa),(59,zI x.n),(60,zI i)] [(50,⟨71,kcs (sortR D)++ac⟩),(54,⟨69,kcs Z'++X'⟩),(57,⟨74,kcs (List.replicate (x.n - i) [0,0,0,0,0]++A')++[]⟩)])∧(Ext bc u')) (fun m S u1 u2 e h=>by obtain ⟨i,Z',X',A',hm,p0,p1,p2,p3,p4,p5,p6,hS,hE⟩:=h;exact ⟨i,Z',X',A',hm,p0,p1,p2,p3,p4,p5,p6,hS,hE.trans e⟩) _ yk ⟨0,Z,ax,[],rfl,Nat.zero_le _,hZ,xq,ak,(fun p hp=>by cases hp),rfl,rfl,rfl,(Ext.refl _)⟩ ?_)))))))))
 rintro aZ _ bf ⟨i,Z',X',A',bo,hi1,hZ',hZn',hX',hA',hAn',hP',rfl,bw⟩
 have ap:OkR 5 (List.replicate (x.n - i) [0,0,0,0,0]++A'):=okR_fill hA'
 have am:(List.replicate (x.n - i) [0,0,0,0,0]++A').length=x.n:=by rw[List.length_append,List.length_replicate,hAn'];omega
 refine sq9 (zza 61 (zB (decide ((i:Int)<(x.n:Int)))) (zzb (zzd (zzu (b:=decide ((i:Int)<(x.n:Int))) xj (fun ah=>?_) (fun ah=>?_)))))
 ·have qhb56:=qyt ah
  refine zzs (zzp ?_)
  refine zzd (zzt (sq9 (zza 62 (zI i) (zyw 63 (off':=i*2) (n:=x.n) (off:=0) (sz:=2) (i:=(i:Int)) sl72 xq xq xq ?_))))
  refine zzi 64 (V:=⟨71,kcs (sortR D)++ac⟩) (off:=i*2) (.v (.agg #[.int .i64 (gi (sortR D) i 0),.int .i64 (gi (sortR D) i 1)])) ty71 (part_k2 (OkR.rows (sortR_ok hD (by rw[(show D.length=x.n by omega)];omega))) (i:=i) (by rw[(sortR_len.trans (show D.length=x.n by omega))];omega) rfl) ?_
  have hz570:=OkR.bd (sortR_ok hD (by rw[(show D.length=x.n by omega)];omega)) (i:=i) (j:=0) (by rw[(sortR_len.trans (show D.length=x.n by omega))];omega) yq
  have hz571:=OkR.bd (sortR_ok hD (by rw[(show D.length=x.n by omega)];omega)) (i:=i) (j:=1) (by rw[(sortR_len.trans (show D.length=x.n by omega))];omega) yq
  refine zzk 11 ⟨71,[.int .i64 0,.int .i64 0]⟩ (zza 10 (zI i) (zzj ⟨71,[.int .i64 (gi (sortR D) i 0),.int .i64 (gi (sortR D) i 1)]⟩ ty71 ?_))
  refine zzc 105 [(7,.slc 50 0 x.n aa),(8,.slc 54 0 (x.n - i) ab),(9,.slc 57 0 x.n x.n),(10,zI i),(11,.adr 11 0),(58,.slc 50 0 x.n aa),(59,zI x.n),(60,zI i)] [(11,⟨71,[.int .i64 (gi (sortR D) i 0),.int .i64 (gi (sortR D) i 1)]⟩),(50,⟨71,kcs (sortR D)++ac⟩),(54,⟨69,kcs Z'++X'⟩),(57,⟨74,kcs (List.replicate (x.n - i) [0,0,0,0,0]++A')++[]⟩)] (sq9 (zza 12 (zI 0) (zzb (zzd (sq9 (zza 65 (.slc 54 0 (x.n - i) ab) (zza 66 (zI (x.n - i:Nat)) (zza 67 (zI 0) (zzc 105 [(7,.slc 50 0 x.n aa),(8,.slc 54 0 (x.n - i) ab),(9,.slc 57 0 x.n x.n),(10,zI i),(11,.adr 11 0),(12,zI 0),(58,.slc 50 0 x.n aa),(59,zI x.n),(60,zI i),(66,zI (x.n - i:Nat)),(67,zI 0)] [(11,⟨71,[.int .i64 (gi (sortR D) i 0),.int .i64 (gi (sortR D) i 1)]⟩),(50,⟨71,kcs (sortR D)++ac⟩),(54,⟨69,kcs Z'++X'⟩),(57,⟨74,kcs (List.replicate (x.n - i) [0,0,0,0,0]++A')++[]⟩)] (zzt (zyn (I:=fun aT S' u'=>∃ (j:Nat) (m:Nat),(aT=x.n - i - j)∧(j≤x.n - i)∧(m=bestR Z' (gi (sortR D) i 0) (gi (sortR D) i 1) j)∧(S'=St.of 105 [(7,.slc 50 0 x.n aa),(8,.slc 54 0 (x.n - i) ab),(9,.slc 57 0 x.n x.n),(10,zI i),(11,.adr 11 0),(12,zI m),(58,.slc 50 0 x.n aa),(59,zI x.n),(60,zI i),(66,zI (x.n - i:Nat)),(67,zI j)] [(11,⟨71,[.int .i64 (gi (sortR D) i 0),.int .i64 (gi (sortR D) i 1)]⟩),(50,⟨71,kcs (sortR D)++ac⟩),(54,⟨69,kcs Z'++X'⟩),(57,⟨74,kcs (List.replicate (x.n - i) [0,0,0,0,0]++A')++[]⟩)])∧(Ext bf u')) (fun m S u1 u2 e h=>by obtain ⟨j,m,hm,p0,p1,hS,hE⟩:=h;exact ⟨j,m,hm,p0,p1,hS,hE.trans e⟩) _ yk ⟨0,0,rfl,Nat.zero_le _,rfl,rfl,(Ext.refl _)⟩ ?_)))))))))))
  rintro aT _ bl ⟨j,m,ba,hj,hm,rfl,aE⟩
  have hmL:m<x.n - i:=by rw[hm];exact best_in xq hj
  refine sq9 (zza 68 (zB (decide ((j:Int)<((x.n - i:Nat):Int)))) (zzb (zzd (zzu (b:=decide ((j:Int)<((x.n - i:Nat):Int))) xj (fun ai=>?_) (fun ai=>?_)))))
  ·have qhb59:=qyt ai
   refine zzs (zzp ?_)
   refine zzd (zzt (sq9 (zza 69 (zI j) (zza 13 (zI j) (zzb (zzd (zzz [0,0,3,7,0,31,0,0,192,448,0,2047,4095] [(0,[]),(1,[]),(2,[]),(3,[]),(4,[]),(6,[]),(7,[]),(8,[]),(9,[]),(10,[]),(5,[]),(11,[]),(12,[])] xj xj (zza 70 (.slc 54 0 (x.n - i) ab) (zza 71 (zI j) (zyw 72 (off':=j*3) (n:=(x.n - i)) (off:=0) (sz:=3) (i:=(j:Int)) sl70 xq xq xq ?_))))))))))
   refine zzi 73 (V:=⟨69,kcs Z'++X'⟩) (off:=j*3) (.v (.agg #[.int .i64 (gi Z' j 0),.int .i64 (gi Z' j 1),.int .i64 (gi Z' j 2)])) ty69 (part_k3 (OkR.rows hZ') (i:=j) (by rw[hZn'];omega) rfl) ?_
   have hz600:=OkR.bd hZ' (i:=j) (j:=0) (by rw[hZn'];omega) yq
   have hz601:=OkR.bd hZ' (i:=j) (j:=1) (by rw[hZn'];omega) yq
   have hz602:=OkR.bd hZ' (i:=j) (j:=2) (by rw[hZn'];omega) yq
   refine zzi 74 (.v (.agg #[.int .i64 (gi (sortR D) i 0),.int .i64 (gi (sortR D) i 1)])) ty71 zze (zza 76 (.slc 54 0 (x.n - i) ab) (zza 77 (zI m) (zyw 78 (off':=m*3) (n:=(x.n - i)) (off:=0) (sz:=3) (i:=(m:Int)) sl70 xq xq xq ?_)))
   refine zzi 79 (V:=⟨69,kcs Z'++X'⟩) (off:=m*3) (.v (.agg #[.int .i64 (gi Z' m 0),.int .i64 (gi Z' m 1),.int .i64 (gi Z' m 2)])) ty69 (part_k3 (OkR.rows hZ') (i:=m) (by rw[hZn'];omega) rfl) ?_
   have hz610:=OkR.bd hZ' (i:=m) (j:=0) (by rw[hZn'];omega) yq
   have hz611:=OkR.bd hZ' (i:=m) (j:=1) (by rw[hZn'];omega) yq
   have hz612:=OkR.bd hZ' (i:=m) (j:=2) (by rw[hZn'];omega) yq
   refine zzi 80 (.v (.agg #[.int .i64 (gi (sortR D) i 0),.int .i64 (gi (sortR D) i 1)])) ty71 zze (zzg 75 112 _ fun _ _ aS a4=>qym (k_cdist (b0:=gi Z' j 0) (b1:=gi Z' j 1) (b2:=gi Z' j 2) (a0:=gi (sortR D) i 0) (a1:=gi (sortR D) i 1) a4 xq xq xq xq) ?_)
   rintro _ u63 a3 rfl
   have hdz66:=dist_bd (b1:=gi Z' j 1) (b2:=gi Z' j 2) (a0:=gi (sortR D) i 0) (a1:=gi (sortR D) i 1) xq xq xq xq
   refine zzg 81 112 _ fun _ _ aV a9=>qym (k_cdist (b0:=gi Z' m 0) (b1:=gi Z' m 1) (b2:=gi Z' m 2) (a0:=gi (sortR D) i 0) (a1:=gi (sortR D) i 1) a9 xq xq xq xq) ?_
   rintro _ u68 aP rfl
   have hdz71:=dist_bd (b1:=gi Z' m 1) (b2:=gi Z' m 2) (a0:=gi (sortR D) i 0) (a1:=gi (sortR D) i 1) xq xq xq xq
   refine zza 82 (zB (decide ((distZ (gi Z' j 1) (gi Z' j 2) (gi (sortR D) i 0) (gi (sortR D) i 1))<(distZ (gi Z' m 1) (gi Z' m 2) (gi (sortR D) i 0) (gi (sortR D) i 1))))) (zzc 105 [(7,.slc 50 0 x.n aa),(8,.slc 54 0 (x.n - i) ab),(9,.slc 57 0 x.n x.n),(10,zI i),(11,.adr 11 0),(12,zI m),(13,zI j),(58,.slc 50 0 x.n aa),(59,zI x.n),(60,zI i),(66,zI (x.n - i:Nat)),(67,zI j),(82,zB (decide ((distZ (gi Z' j 1) (gi Z' j 2) (gi (sortR D) i 0) (gi (sortR D) i 1))<(distZ (gi Z' m 1) (gi Z' m 2) (gi (sortR D) i 0) (gi (sortR D) i 1)))))] [(11,⟨71,[.int .i64 (gi (sortR D) i 0),.int .i64 (gi (sortR D) i 1)]⟩),(50,⟨71,kcs (sortR D)++ac⟩),(54,⟨69,kcs Z'++X'⟩),(57,⟨74,kcs (List.replicate (x.n - i) [0,0,0,0,0]++A')++[]⟩)] (zzu (b:=decide ((distZ (gi Z' j 1) (gi Z' j 2) (gi (sortR D) i 0) (gi (sortR D) i 1))<(distZ (gi Z' m 1) (gi Z' m 2) (gi (sortR D) i 0) (gi (sortR D) i 1)))) xj (fun af=>?_) (fun af=>?_)))
   ·have qhb72:=qyt af
    refine zzf (zza 83 (zI j) (zza 12 (zI j) (zzx ?_)))
    refine zzp (zzf (qwi 84 ((j:Int)+1) (j+1:Nat) xz (zza 67 (zI (j+1:Nat)) (zzx ?_))))
    refine ⟨_,?_,_,by exact zzv _ _ _,j+1,j,rfl,by omega,(by have h9:=qhb72;rw[hm] at h9;exact (best_yes h9).symm),rfl,(aE.t (aS.t (a3.t (aV.t aP.ext))))⟩
    omega
   have qhb72:=qyf af
   refine zzs (zzp ?_)
   refine zzf (qwi 84 ((j:Int)+1) (j+1:Nat) xz (zza 67 (zI (j+1:Nat)) (zzx ?_)))
   refine ⟨_,?_,_,by exact zzv _ _ _,j+1,m,rfl,by omega,(by have h9:=qhb72;rw[hm] at h9;exact hm.trans (best_no h9).symm),rfl,(aE.t (aS.t (a3.t (aV.t aP.ext))))⟩
   omega
  have qhb59:=qyf ai
  refine zyc (zzp (zzd (zzz [0,0,2,6,0,30,0,0,192,448,0,1984,4095,8191] [(0,[]),(1,[]),(2,[]),(3,[]),(4,[]),(5,[]),(6,[]),(7,[]),(8,[]),(9,[]),(10,[]),(11,[]),(12,[]),(13,[])] xj xj (zza 85 (.slc 57 0 x.n x.n) (zza 86 (.slc 50 0 x.n aa) (zza 87 (zI x.n) (qwi 88 ((x.n:Int) - 1) (x.n - 1:Nat) xz (zza 89 (zI i) (qwi 90 (((x.n - 1:Nat):Int) - (i:Int)) (((x.n - 1) - i:Nat):Int) xz (zza 91 (.slc 54 0 (x.n - i) ab) (zza 92 (zI m) ?_)))))))))))
  refine zyw 93 (off':=m*3) (n:=(x.n - i)) (off:=0) (sz:=3) (i:=(m:Int)) sl70 xq xq xq ?_
  refine zzi 94 (V:=⟨69,kcs Z'++X'⟩) (off:=m*3) (.v (.agg #[.int .i64 (gi Z' m 0),.int .i64 (gi Z' m 1),.int .i64 (gi Z' m 2)])) ty69 (part_k3 (OkR.rows hZ') (i:=m) (by rw[hZn'];omega) rfl) ?_
  have hz730:=OkR.bd hZ' (i:=m) (j:=0) (by rw[hZn'];omega) yq
  have hz731:=OkR.bd hZ' (i:=m) (j:=1) (by rw[hZn'];omega) yq
  have hz732:=OkR.bd hZ' (i:=m) (j:=2) (by rw[hZn'];omega) yq
  refine zzi 95 (.v (.agg #[.int .i64 (gi (sortR D) i 0),.int .i64 (gi (sortR D) i 1)])) ty71 zze (zza 96 (.v (.agg #[.int .i64 (gi Z' m 0),.int .i64 (gi Z' m 1),.int .i64 (gi Z' m 2),.int .i64 (gi (sortR D) i 0),.int .i64 (gi (sortR D) i 1)])) (zyw 97 (off':=((x.n - 1) - i)*5) (n:=x.n) (off:=0) (sz:=5) (i:=(((x.n - 1) - i:Nat):Int)) sl66 xq xq xq ?_))
  have al:OkR 5 ([gi Z' m 0,gi Z' m 1,gi Z' m 2,gi (sortR D) i 0,gi (sortR D) i 1]::A'):=okR_cons5 hA' xq xq xq xq xq
  have a5:OkR 5 (List.replicate (x.n - (i+1)) [0,0,0,0,0]++([gi Z' m 0,gi Z' m 1,gi Z' m 2,gi (sortR D) i 0,gi (sortR D) i 1]::A')):=okR_fill al
  have bt:(List.replicate (x.n - (i+1)) [0,0,0,0,0]++([gi Z' m 0,gi Z' m 1,gi Z' m 2,gi (sortR D) i 0,gi (sortR D) i 1]::A')).length=x.n:=by rw[List.length_append,List.length_replicate,List.length_cons,hAn'];omega
  refine zyv (V:=⟨74,kcs (List.replicate (x.n - i) [0,0,0,0,0]++A')++[]⟩) (off:=((x.n - 1) - i)*5) (kcs (List.replicate (x.n - (i+1)) [0,0,0,0,0]++([gi Z' m 0,gi Z' m 1,gi Z' m 2,gi (sortR D) i 0,gi (sortR D) i 1]::A'))++[]) ty74 (by rw[List.length_append,kcs_len (OkR.rows ap),am];omega) (by rw[← fill_back (z:=[0,0,0,0,0]) (show i<x.n by omega) [gi Z' m 0,gi Z' m 1,gi Z' m 2,gi (sortR D) i 0,gi (sortR D) i 1]];exact (setL_k5 (OkR.rows ap) (i:=(x.n - 1) - i) (by rw[am];omega) rfl)) ?_
  refine zzc 105 [(7,.slc 50 0 x.n aa),(8,.slc 54 0 (x.n - i) ab),(9,.slc 57 0 x.n x.n),(12,zI m),(58,.slc 50 0 x.n aa),(59,zI x.n),(60,zI i)] [(50,⟨71,kcs (sortR D)++ac⟩),(54,⟨69,kcs Z'++X'⟩),(57,⟨74,kcs (List.replicate (x.n - (i+1)) [0,0,0,0,0]++([gi Z' m 0,gi Z' m 1,gi Z' m 2,gi (sortR D) i 0,gi (sortR D) i 1]::A'))++[]⟩)] (zzf (zza 98 (.slc 54 0 (x.n - i) ab) (zza 99 (zI m) (zza 100 (zI m) (qwi 101 ((m:Int)+1) (m+1:Nat) xz ?_)))))
  have kc75:=fun (g:Nat) (w u1:World) (e:Ext bl u1) (d:Dat u1 w) (hg:w.heap[g]? = some (.cells (kcs Z'++X').toArray 69 (0,0))) (hu:u1.heap[g]? = some hidO)=>k_cdelete (n:=x.n - i) (c:=ab) (i:=m) d hg hu hZ' hZn' hX' xq xq xq
  refine sy_lendS 102 113 (t:=54) (V:=⟨69,kcs Z'++X'⟩) (len:=(x.n - i)) (cap:=ab) [.int .i64 m,.int .i64 (m+1:Nat)] xj kc75 ?_
  clear kc75
  rintro bq _ u75 a7 ⟨bn,bb,rfl,aJ⟩
  obtain rfl:bq=x.n - (i+1):=by omega
  have aA:(Z'.eraseIdx m).length=x.n - (i+1):=by rw[List.length_eraseIdx,if_pos xq,hZn'];omega
  refine sy_over 8 (.slc 54 0 (x.n - (i+1)) ab) (zzx ?_)
  refine zzp (zzf (qwi 103 ((i:Int)+1) (i+1:Nat) xz (zza 60 (zI (i+1:Nat)) (zzx ?_))))
  refine ⟨_,?_,_,by exact zzv _ _ _,i+1,(Z'.eraseIdx m),bb,[gi Z' m 0,gi Z' m 1,gi Z' m 2,gi (sortR D) i 0,gi (sortR D) i 1]::A',rfl,by omega,(OkR.erase hZ'),aA,aJ,al,(by rw[List.length_cons,hAn']),(by have h9:=hP';rw[pairR_step (by rw[sortR_len];omega),hZn',show x.n - i=j by omega,← hm] at h9;exact h9),rfl,(bw.trans (aE.trans a7))⟩
  omega
 have qhb56:=qyf ah
 refine zyc (zzp (zzd (zyp (r:=9) (t:=57) [9,57] xw xj zq zq xj (fun aj bj e78 a6 aB=>?_))))
 have aC:IrV 5 bj ⟨some ⟨aj,0,none⟩,x.n,x.n⟩ (List.replicate (x.n - i) [0,0,0,0,0]++A'):=ir_data aB (OkR.rows ap) (by rw[List.append_nil,List.take_of_length_le (by rw[kcs_len (OkR.rows ap),am];omega)]) (by rw[am]) (by rw[List.append_nil,kcs_len (OkR.rows ap),am]) xq yv
 refine zzf (zza 104 (.v (.slice (some ⟨aj,0,none⟩) x.n x.n)) (zza 4 (.v (.slice (some ⟨aj,0,none⟩) x.n x.n)) (zza 5 (zI 0) (zzc 105 [(4,.v (.slice (some ⟨aj,0,none⟩) x.n x.n)),(5,zI 0)] [] (zzo (ret0 [.slice (some ⟨aj,0,none⟩) x.n x.n,.int .i64 0] ⟨zzq,zzq,trivial⟩ fun u82 bi=>?_))))))
 have hi9:i=x.n:=by omega
 have h9:=(aC.ext bi)
 rw[show x.n - i=0 by omega] at h9
 have h8:=hP'
 rw[List.drop_of_length_le (by rw[sortR_len];omega)] at h8
 refine ⟨(⟨some ⟨aj,0,none⟩,x.n,x.n⟩:Sl),rfl,?_⟩
 rw[← h8]
 exact h9
theorem k_known24 {u w:World} (d:Dat u w):qyc 9 #[] w (Post u w fun v _=>v=.bool true):=by
 refine zzm Tryz.func9 rfl Tryz.ntmps9 Tryz.results9 d ?_
 refine sq9 (zza 0 (zB false) (zzb (sq9 (zza 4 (.v (.agg #[.int .i64 1,.int .i64 0,.int .i64 1])) (zza 5 (.v (.agg #[.int .i64 1,.int .i64 2,.int .i64 1])) (zxx 6 ⟨69,[.int .i64 1,.int .i64 0,.int .i64 1,.int .i64 1,.int .i64 2,.int .i64 1]⟩ 2 (fun aj ap e13 ao=>?_)))))))
 have ae:IrV 3 ap (⟨some ⟨aj,0,none⟩,2,2⟩:Sl) [[1,0,1],[1,2,1]]:=ir_data (cs:=[.int .i64 1,.int .i64 0,.int .i64 1,.int .i64 1,.int .i64 2,.int .i64 1]) ao yq rfl rfl rfl yq (by unfold maxLen;decide)
 refine zza 7 (.v (.agg #[.int .i64 0,.int .i64 1])) (zza 8 (.v (.agg #[.int .i64 2,.int .i64 2])) (zxx 9 ⟨71,[.int .i64 0,.int .i64 1,.int .i64 2,.int .i64 2]⟩ 2 (fun ac ar aq au=>?_)))
 have ai:IrV 2 ar (⟨some ⟨ac,0,none⟩,2,2⟩:Sl) [[0,1],[2,2]]:=ir_data (cs:=[.int .i64 0,.int .i64 1,.int .i64 2,.int .i64 2]) au yq rfl rfl rfl yq (by unfold maxLen;decide)
 refine zzg 10 44 _ fun _ _ al an=>qym ((show Calls _ _ #[.slice (some ⟨aj,0,none⟩) 2 2,.slice (some ⟨ac,0,none⟩) 2 2] _ _ from k_cpair (x:=(⟨some ⟨aj,0,none⟩,2,2⟩:Sl)) (y:=(⟨some ⟨ac,0,none⟩,2,2⟩:Sl)) an (ae.ext (aq.trans al)) (ai.ext al) yq yq yq yq yq)) ?_
 rintro _ u23 g24 ⟨aa,rfl,ab⟩
 refine zza 3 (.v (.tuple #[aa.v,.int .i64 0])) (zza 11 (.v (aa.v)) (zza 12 (zI 0) (zza 1 (.v (aa.v)) (zza 2 (zI 0) (zzb (zzd ?_))))))
 have hP9:=ab
 rw[show (pairR (sortR ([[0,1],[2,2]])) ([[1,0,1],[1,2,1]]) [])=[[1,0,1,0,1],[1,2,1,2,2]] by decide] at hP9
 have hn9:=hP9.len
 change _=2 at hn9
 refine zzf (zza 13 (zI 0) (zza 14 (zB true) (zza 15 (zB true) (zza 16 (.v (aa.v)) ?_ (hw:=w1 2 true 15)))))
 refine zza 17 (zI aa.n) ?_ (hw:=w1 2 true 15)
 refine zza 18 (zB ((aa.n:Int)==2)) ?_ (hw:=w1 2 true 15)
 refine zza 19 (zB ((aa.n:Int)==2)) (zyq 20 (x:=zB ((aa.n:Int)==2)) (zB true) (by rw[show ((aa.n:Int)==2)=true from yy]) (zza 21 (.v (aa.v)) ?_ (hw:=w1 7 true 20)))
 have hl27:=(hP9).len
 obtain ⟨b27,ak,ad,ah⟩:=ir_at5 hP9 (i:=0) xq
 refine zya 22 (ak+0*5) (n:=aa.n) (off:=ak) (sz:=5) (i:=0) xq ad xq xq sl66 ?_ (hw:=w1 7 true 20)
 refine zym 23 [.int .i64 (gi ([[1,0,1,0,1],[1,2,1,2,2]]) 0 0),.int .i64 (gi ([[1,0,1,0,1],[1,2,1,2,2]]) 0 1),.int .i64 (gi ([[1,0,1,0,1],[1,2,1,2,2]]) 0 2),.int .i64 (gi ([[1,0,1,0,1],[1,2,1,2,2]]) 0 3),.int .i64 (gi ([[1,0,1,0,1],[1,2,1,2,2]]) 0 4)] ah ty74 ?_ (hw:=w1 7 true 20)
 refine zza 24 (.v (.agg #[.int .i64 1,.int .i64 0,.int .i64 1])) ?_ (hw:=w1 7 true 20)
 refine zza 25 (.v (.agg #[.int .i64 0,.int .i64 1])) ?_ (hw:=w1 7 true 20)
 refine zza 26 (.v (.agg #[.int .i64 1,.int .i64 0,.int .i64 1,.int .i64 0,.int .i64 1])) ?_ (hw:=w1 7 true 20)
 refine zza 27 (zB true) ?_ (hw:=w1 7 true 20)
 refine zza 28 (zB true) (zza 29 (zB true) (zza 30 (.v (aa.v)) ?_ (hw:=w1 16 true 29)))
 have hl28:=(hP9).len
 obtain ⟨b28,am,af,ag⟩:=ir_at5 hP9 (i:=1) xq
 refine zya 31 (am+1*5) (n:=aa.n) (off:=am) (sz:=5) (i:=1) xq af xq xq sl66 ?_ (hw:=w1 16 true 29)
 refine zym 32 [.int .i64 (gi ([[1,0,1,0,1],[1,2,1,2,2]]) 1 0),.int .i64 (gi ([[1,0,1,0,1],[1,2,1,2,2]]) 1 1),.int .i64 (gi ([[1,0,1,0,1],[1,2,1,2,2]]) 1 2),.int .i64 (gi ([[1,0,1,0,1],[1,2,1,2,2]]) 1 3),.int .i64 (gi ([[1,0,1,0,1],[1,2,1,2,2]]) 1 4)] ag ty74 ?_ (hw:=w1 16 true 29)
 refine zza 33 (.v (.agg #[.int .i64 1,.int .i64 2,.int .i64 1])) ?_ (hw:=w1 16 true 29)
 refine zza 34 (.v (.agg #[.int .i64 2,.int .i64 2])) ?_ (hw:=w1 16 true 29)
 refine zza 35 (.v (.agg #[.int .i64 1,.int .i64 2,.int .i64 1,.int .i64 2,.int .i64 2])) ?_ (hw:=w1 16 true 29)
 refine zza 36 (zB true) ?_ (hw:=w1 16 true 29)
 refine zza 37 (zB true) (zza 0 (zB true) (zzc 38 [(0,zB true)] [] (zzo (ret0 [.bool true] ⟨zzq,trivial⟩ fun u29 e30=>?_))))
 rfl
theorem k_within {u w:World} {n m:Int} (d:Dat u w) (hm:1≤m) (hm2:m≤4611686018427387904) (hn0 : -9223372036854775808≤n) (hn1:n≤9223372036854775807):qyc 4 #[.int .i64 n,.int .i64 m] w (Post u w fun v _=>v=.int .i64 (n%m)):=by
 refine zzm Tryz.func4 rfl Tryz.ntmps4 Tryz.results4 d ?_
 refine sq9 (zza 4 (zI 0) (zzb (zzd (sq9 (zza 5 (zI m) (zyq 6 (x:=zB (decide (m<1))) (zB false) (by rw[show (decide (m<1))=false from yy]) (zzb (zys xj (zzs (zzp ?_))))))))))
 refine sq9 (zza 7 (zI n) (zza 8 (zI m) (sy_rem 9 (Int.tmod n m) xq rfl ?_)))
 refine zza 0 (zI (Int.tmod n m)) (zzb (zzd (sq9 (zza 10 (zI (Int.tmod n m)) (zza 11 (zB (decide ((Int.tmod n m)<0))) (zzb (zzu (b:=decide ((Int.tmod n m)<0)) xj (fun aa=>?_) (fun aa=>?_))))))))
 ·have qhb11:=qyt aa
  refine zzf (zza 12 (zI (Int.tmod n m)) (zza 13 (zI m) (zyq 14 (x:=zI (IntKind.i64.wrap (Int.tmod n m+m))) (zI (Int.tmod n m+m)) (by rw[show (IntKind.i64.wrap (Int.tmod n m+m))=(Int.tmod n m+m) from (IntWalk.i64_in _ (by have h2:=Int.lt_tmod_of_pos n (show 0<m by omega);have h3:=Int.tmod_lt_of_pos n (show 0<m by omega);omega))]) (zza 0 (zI (Int.tmod n m+m)) (zzb (sq9 (zza 15 (zI (Int.tmod n m+m)) (zza 4 (zI (Int.tmod n m+m)) (zzb (zzo (ret0 [.int .i64 (Int.tmod n m+m)] ⟨zzq,trivial⟩ fun u12 e13=>?_)))))))))))
  show Value.int _ _=Value.int _ _
  rw[mod_neg9 m hm n aa]
 have qhb11:=qyf aa
 refine zzs (zzp ?_)
 refine sq9 (zza 15 (zI (Int.tmod n m)) (zza 4 (zI (Int.tmod n m)) (zzb (zzo (ret0 [.int .i64 (Int.tmod n m)] ⟨zzq,trivial⟩ fun u14 e15=>?_)))))
 show Value.int _ _=Value.int _ _
 rw[mod_pos9 m hm n aa]
end Go.Proofs.YtedobdigeeflcaaGreat
