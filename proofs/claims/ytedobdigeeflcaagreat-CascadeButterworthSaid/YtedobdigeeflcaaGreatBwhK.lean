/- Parts of the proof: contracts of functions, each walked once, and plain laws. -/
import Derived.Test.YtedobdigeeflcaaGreatBwhJ
set_option linter.unusedVariables false
set_option maxHeartbeats 8000000
namespace Go.Proofs.YtedobdigeeflcaaGreat
open Nt
open Go.RowKit
theorem k_r10pi {u w:World} {k:Nat} (d:Dat u w) (hk0:16≤k) (hk:k≤800):qyc 104 #[.int .i64 (k:Int)] w (Post u w fun v u'=>∃ (r1 r2:RL) (a b:Int),v=IV r1 r2∧RatN u' r1 (Nt.gr k a) 40∧RatN u' r2 (Nt.gr k b) 40∧PiR k a b):=by
 have hbig:=big hk
 have hu2:=u2_pos k
 refine zzm Tryz.func104 rfl Tryz.ntmps104 Tryz.results104 d ?_
 refine sq9 (zzk 2 ⟨57,zw6⟩ (zzb (sq9 (zza 5 (zI k) (zzg 6 163 _ fun _ _ _ aV=>qym (k_atan aV (n:=5) (k:=k) xq xq xq) ?_)))))
 rintro _ u13 g14 ⟨a0,aS,af,aj,rfl,ay,aA,ap⟩
 refine zzg 7 11 _ fun _ _ aM bb=>qym (k_rqOf bb (z:=16) xq xq) ?_
 rintro _ u19 aN ⟨r17,rfl,a9⟩
 refine zzg 8 11 _ fun _ _ aD bh=>qym (k_rqOf bh (z:=16) xq xq) ?_
 rintro _ u25 aE ⟨r23,rfl,bc⟩
 refine zzg 9 100 _ fun _ _ aw bg=>qym (k_r4Make bg (a9.ext (aD.t (aE.t aw))).raw (bc.ext aw).raw xq) ?_
 rintro _ u33 aR ⟨r29,r31,rfl,bf,aX⟩
 refine zzg 10 103 _ fun _ _ aq a1=>qym (k_r4Mul a1 (ay.ext (aM.t (aN.t (aD.t (aE.t (aw.t (aR.t aq))))))).raw (aA.ext (aM.t (aN.t (aD.t (aE.t (aw.t (aR.t aq))))))).raw (bf.ext aq).raw (aX.ext aq).raw xq xq) ?_
 rintro _ aQ g42 ⟨ai,ae,rfl,bl,aZ⟩
 refine zzk 3 ⟨57,zw6⟩ (zzj ⟨57,ai.cs++ae.cs⟩ ty57 ?_)
 refine zzb (zzd ?_)
 have hab44:=(atR_bd ap xq).2.2.2.2
 have aH:RatN aQ ai (Nt.gr k (af*16)) (40+2+1):=zRc bl ((pi_m (m:=16) hab44).1)
 have aB:RatN aQ ae (Nt.gr k (aj*16)) (40+2+1):=zRc aZ ((pi_m (m:=16) hab44).2)
 refine zzf (zza 11 (zI k) (zzg 12 163 _ fun _ _ aO ba=>qym (k_atan ba (n:=239) (k:=k) xq xq xq) ?_))
 rintro _ u49 aK ⟨a2,a3,an,am,rfl,aG,aC,ag⟩
 refine zzg 13 11 _ fun _ _ ar a5=>qym (k_rqOf a5 (z:=4) xq xq) ?_
 rintro _ u55 ax ⟨r53,rfl,bi⟩
 refine zzg 14 11 _ fun _ _ ak aU=>qym (k_rqOf aU (z:=4) xq xq) ?_
 rintro _ u61 ac ⟨r59,rfl,aT⟩
 refine zzg 15 100 _ fun _ _ aa a8=>qym (k_r4Make a8 (bi.ext (ak.t (ac.t aa))).raw (aT.ext aa).raw xq) ?_
 rintro _ u69 au ⟨r65,r67,rfl,a6,a7⟩
 refine zzg 16 103 _ fun _ _ ab bk=>qym (k_r4Mul bk (aG.ext (ar.t (ax.t (ak.t (ac.t (aa.t (au.t ab))))))).raw (aC.ext (ar.t (ax.t (ak.t (ac.t (aa.t (au.t ab))))))).raw (a6.ext ab).raw (a7.ext ab).raw xq xq) ?_
 rintro _ aP aJ ⟨ah,ad,rfl,bj,be⟩
 refine zzk 4 ⟨57,zw6⟩ (zzj ⟨57,ah.cs++ad.cs⟩ ty57 ?_)
 refine zzb (zzd ?_)
 have hab80:=(atR_bd ag xq).2.2.2.2
 have aF:RatN aP ah (Nt.gr k (an*4)) (40+2+1):=zRc bj ((pi_m (m:=4) hab80).1)
 have aI:RatN aP ad (Nt.gr k (am*4)) (40+2+1):=zRc be ((pi_m (m:=4) hab80).2)
 refine zzf (zzi 17 (.v (.agg #[.bool ai.s,ai.m.v,ai.d.v,.bool ae.s,ae.m.v,ae.d.v])) ty57 zze (zzi 18 (.v (.agg #[.bool ah.s,ah.m.v,ah.d.v,.bool ad.s,ad.m.v,ad.d.v])) ty57 zze (zzg 19 160 _ fun _ _ av a4=>qym (k_r4Sub a4 (aH.ext (aO.t (aK.t (ar.t (ax.t (ak.t (ac.t (aa.t (au.t (ab.t (aJ.t av))))))))))).raw (aB.ext (aO.t (aK.t (ar.t (ax.t (ak.t (ac.t (aa.t (au.t (ab.t (aJ.t av))))))))))).raw (aF.ext av).raw (aI.ext av).raw xq xq) ?_)))
 rintro _ u88 g89 ⟨al,ao,rfl,aY,aW⟩
 refine zzj ⟨57,al.cs++ao.cs⟩ ty57 ?_
 refine zzb (zzo (ret0 [.agg #[.bool al.s,al.m.v,al.d.v,.bool ao.s,ao.m.v,ao.d.v]] ⟨zzr ty57 zze,trivial⟩ fun u91 aL=>?_))
 have hP:=PiR.of ap ag
 have hb9:=hP.bd hk0
 refine ⟨al,ao,_,_,rfl,RatN.limG (K:=((40+2+1)+(40+2+1)+2)) (z:=af*16 - am*4) ?_ xq xq hk,RatN.limG (K:=((40+2+1)+(40+2+1)+2)) (z:=aj*16 - an*4) ?_ xq xq hk,hP⟩
 ·have h9:=(aY.ext aL)
  rw[(cs_s xq xq).1] at h9
  exact h9
 have h9:=(aW.ext aL)
 rw[(cs_s xq xq).2] at h9
 exact h9
theorem k_r10cos {u w:World} {a1 a2:RL} {p q k K:Nat} {a b:Int} (d:Dat u w) (hP:PiR k a b) (hq0:0<q) (hp:2*p≤q) (hp1:1≤p) (hk0:16≤k) (hk:k≤800) (ha1:RatN u a1 (Nt.gr k a*(((p:Int):Rat) / ((q:Int):Rat))) K) (ha2:RatN u a2 (Nt.gr k b*(((p:Int):Rat) / ((q:Int):Rat))) K) (hK:K≤1000):qyc 102 #[IV a1 a2,.int .i64 (k:Int)] w (Post u w fun v u'=>∃ (r1 r2:RL) (a b:Int),v=IV r1 r2∧RatN u' r1 (Nt.gr k a) 40∧RatN u' r2 (Nt.gr k b) 40∧CsR p q k a b):=by
 have hbig:=big hk
 have hu2:=u2_pos k
 have hw0:=csW_le hk
 have ej:CsQ p q k (flU k ((Nt.gr k a*(((p:Int):Rat) / ((q:Int):Rat)))*(Nt.gr k a*(((p:Int):Rat) / ((q:Int):Rat))))) (ceU k ((Nt.gr k b*(((p:Int):Rat) / ((q:Int):Rat)))*(Nt.gr k b*(((p:Int):Rat) / ((q:Int):Rat)))))∧0≤(Nt.gr k a*(((p:Int):Rat) / ((q:Int):Rat)))∧(Nt.gr k a*(((p:Int):Rat) / ((q:Int):Rat)))≤(Nt.gr k b*(((p:Int):Rat) / ((q:Int):Rat)))∧0<(Nt.gr k b*(((p:Int):Rat) / ((q:Int):Rat))):=CsQ.ofR hP hk0 hq0 hp hp1
 obtain ⟨hQ,et,hxy,e2⟩:=ej
 have hS:=sq_of_nn et hxy e2
 obtain ⟨ql,hql⟩:∃z:Int,flU k ((Nt.gr k a*(((p:Int):Rat) / ((q:Int):Rat)))*(Nt.gr k a*(((p:Int):Rat) / ((q:Int):Rat))))=z:=⟨_,rfl⟩
 obtain ⟨qh,hqh⟩:∃z:Int,ceU k ((Nt.gr k b*(((p:Int):Rat) / ((q:Int):Rat)))*(Nt.gr k b*(((p:Int):Rat) / ((q:Int):Rat))))=z:=⟨_,rfl⟩
 rw[hql,hqh] at hQ
 obtain ⟨_,hQ2,bi,hQ4,bj,hQ6⟩:=id hQ
 refine zzm Tryz.func102 rfl Tryz.ntmps102 Tryz.results102 d ?_
 refine sq9 (zzk 2 ⟨57,a1.cs++a2.cs⟩ (zzk 4 ⟨57,zw6⟩ (zzb (sq9 (zzg 11 11 _ fun _ _ dT ep=>qym (k_rqOf ep (z:=0) xq xq) ?_)))))
 rintro _ u14 dX ⟨r12,rfl,ed⟩
 refine zzg 12 11 _ fun _ _ cX eE=>qym (k_rqOf eE (z:=0) xq xq) ?_
 rintro _ u20 cH ⟨r18,rfl,fi⟩
 refine zzg 13 100 _ fun _ _ cB eT=>qym (k_r4Make eT (ed.ext (cX.t (cH.t cB))).raw (fi.ext cB).raw xq) ?_
 rintro _ u28 dW ⟨dZ,dY,rfl,e6,eG⟩
 refine zzk 5 ⟨57,zw6⟩ (zzj ⟨57,dZ.cs++dY.cs⟩ ty57 ?_)
 refine zzb (sq9 (zzg 14 11 _ fun _ _ cv eg=>qym (k_rqOf eg (z:=1) xq xq) ?_))
 rintro _ u34 cz ⟨r32,rfl,e3⟩
 refine zzg 15 11 _ fun _ _ b0 eo=>qym (k_rqOf eo (z:=1) xq xq) ?_
 rintro _ u40 ct ⟨r38,rfl,eC⟩
 refine zzg 16 100 _ fun _ _ bQ eD=>qym (k_r4Make eD (e3.ext (b0.t (ct.t bQ))).raw (eC.ext bQ).raw xq) ?_
 rintro _ u48 cA ⟨dV,d0,rfl,ek,eJ⟩
 refine zzk 6 ⟨57,zw6⟩ (zzj ⟨57,dV.cs++d0.cs⟩ ty57 ?_)
 refine zzb (sq9 (zzi 17 (.v (.agg #[.bool a1.s,a1.m.v,a1.d.v,.bool a2.s,a2.m.v,a2.d.v])) ty57 zze (zzg 18 158 _ fun _ _ bR d5=>qym (k_r4Square d5 (ha1.ext (dT.t (dX.t (cX.t (cH.t (cB.t (dW.t (cv.t (cz.t (b0.t (ct.t (bQ.t (cA.t bR))))))))))))).raw (ha2.ext (dT.t (dX.t (cX.t (cH.t (cB.t (dW.t (cv.t (cz.t (b0.t (ct.t (bQ.t (cA.t bR))))))))))))).raw xq) ?_)))
 rintro _ u56 cu ⟨r52,r54,rfl,eN,e1⟩
 refine zza 19 (zI k) (zzg 20 157 _ fun _ _ bS eV=>qym (k_wide (k:=k) eV (eN.ext bS).raw (e1.ext bS).raw xq xq) ?_)
 rintro _ cx cw ⟨am,an,rfl,ey,ex⟩
 refine zzk 7 ⟨57,zw6⟩ (zzj ⟨57,am.cs++an.cs⟩ ty57 ?_)
 refine zzb (zzd ?_)
 have cF:RatN cx am (Nt.gr k ql) ((K+K+3)+70):=zRc ey ((congrArg (fun z=>Nt.gr k (flU k z)) hS.1).trans (by rw[hql]))
 have dr:RatN cx an (Nt.gr k qh) ((K+K+3)+70):=zRc ex ((congrArg (fun z=>Nt.gr k (ceU k z)) hS.2).trans (by rw[hqh]))
 have bh:RatN cx am (Nt.gr k ql) 40:=RatN.limG cF xq xq hk
 have bg:RatN cx an (Nt.gr k qh) 40:=RatN.limG dr xq xq hk
 refine zzf (zzg 21 11 _ fun _ _ aP fc=>qym (k_rqOf fc (z:=1) xq xq) ?_)
 rintro _ u74 aO ⟨r72,rfl,fb⟩
 refine zza 22 (zI k) (zzg 23 95 _ fun _ _ aN ez=>qym (k_unit (k:=k) ez xq) ?_)
 rintro _ u80 aM ⟨r78,rfl,d7⟩
 refine zzg 24 98 _ fun _ _ aJ ff=>qym (k_rqOver ff (fb.ext (aN.t (aM.t aJ))).raw (d7.ext aJ).raw xq xq) ?_
 rintro _ ew aQ ⟨b4,rfl,e8⟩
 refine zzk 8 ⟨28,zw3⟩ (zzj ⟨28,b4.cs⟩ ty28 ?_)
 refine zzb (sq9 (zza 9 (zI 0) (zzb (zzt (zyn (I:=fun dU S' u'=>∃ (j:Nat) (x1:RL) (x2:RL) (y1:RL) (y2:RL) (tl:Int) (th:Int) (cc:Int) (dd:Int),(dU=csMF k j th)∧(CsF p q k j tl th cc dd)∧(S'=St.of 70 [(1,zI k),(4,.adr 4 0),(5,.adr 5 0),(6,.adr 6 0),(7,.adr 7 0),(8,.adr 8 0),(9,zI j)] [(4,⟨57,zw6⟩),(5,⟨57,y1.cs++y2.cs⟩),(6,⟨57,x1.cs++x2.cs⟩),(7,⟨57,am.cs++an.cs⟩),(8,⟨28,b4.cs⟩)])∧(Ext ew u')∧(RatN u' x1 (Nt.gr k tl) 40)∧(RatN u' x2 (Nt.gr k th) 40)∧(RatN u' y1 (Nt.gr k cc) 40)∧(RatN u' y2 (Nt.gr k dd) 40)) (fun m S u1 u2 e h=>by obtain ⟨j,x1,x2,y1,y2,tl,th,cc,dd,hm,p0,hS,hE,f0,f1,f2,f3⟩:=h;exact ⟨j,x1,x2,y1,y2,tl,th,cc,dd,hm,p0,hS,hE.trans e,f0.ext e,f1.ext e,f2.ext e,f3.ext e⟩) _ yk ⟨0,dV,d0,dZ,dY,(Nt.u2 k),(Nt.u2 k),0,0,rfl,CsF.start,rfl,(Ext.refl _),(by have h9:=(ek.ext (bR.t (cu.t (bS.t (cw.t (aP.t (aO.t (aN.t (aM.t (aJ.t aQ.ext))))))))));(try simp only[lo_self] at h9);(try simp only[hi_self] at h9);rw[show ((1:Int):Rat)=Nt.gr k (Nt.u2 k) from (gr_one k).symm] at h9;exact RatN.more h9 xq),(by have h9:=(eJ.ext (bR.t (cu.t (bS.t (cw.t (aP.t (aO.t (aN.t (aM.t (aJ.t aQ.ext))))))))));(try simp only[lo_self] at h9);(try simp only[hi_self] at h9);rw[show ((1:Int):Rat)=Nt.gr k (Nt.u2 k) from (gr_one k).symm] at h9;exact RatN.more h9 xq),(by have h9:=(e6.ext (cv.t (cz.t (b0.t (ct.t (bQ.t (cA.t (bR.t (cu.t (bS.t (cw.t (aP.t (aO.t (aN.t (aM.t (aJ.t aQ.ext))))))))))))))));(try simp only[lo_self] at h9);(try simp only[hi_self] at h9);rw[show ((0:Int):Rat)=Nt.gr k 0 from (gr_zero k).symm] at h9;exact RatN.more h9 xq),(by have h9:=(eG.ext (cv.t (cz.t (b0.t (ct.t (bQ.t (cA.t (bR.t (cu.t (bS.t (cw.t (aP.t (aO.t (aN.t (aM.t (aJ.t aQ.ext))))))))))))))));(try simp only[lo_self] at h9);(try simp only[hi_self] at h9);rw[show ((0:Int):Rat)=Nt.gr k 0 from (gr_zero k).symm] at h9;exact RatN.more h9 xq)⟩ ?_)))))
 rintro dU _ u89 ⟨j,x1,x2,y1,y2,tl,th,cc,dd,d1,hI,rfl,aL,f0,f1,f2,f3⟩
 have hjw:=hI.t.jw
 have ht0:=hI.t.t0
 have ht1:=hI.t.t1
 have htt:=hI.t.tt
 have ht2:=hI.t.t2
 have hcd:=hI.cd
 have hbd:=hI.bd hq0 hp
 have hD1:=coD_pos j
 have hD2:=coD_mulR (j:=j) xq
 refine zzd (zzt (zzd (sq9 (zza 27 (zI j) (zza 28 (zB (decide ((1:Int)<(j:Int)))) ?_)))))
 rcases Bool.eq_false_or_eq_true (decide ((1:Int)<(j:Int))) with hs90 | hs90
 ·refine qbi 29 hs90 ?_
  have qhs90:=qyt hs90
  refine zza 30 (.adr 6 3) ?_ (hw:=w1 2 true 29)
  refine zzi 31 (.v (x2.v)) ty28 zze ?_ (hw:=w1 2 true 29)
  refine zzi 32 (.v (b4.v)) ty28 zze ?_ (hw:=w1 2 true 29)
  refine zzg 33 13 _ (fun _ _ aa ee=>qym (k_rqCompare ee (f1.ext aa).raw (e8.ext (aL.trans aa)).raw xq xq) ?_) (hw:=w1 2 true 29)
  rintro _ u92 ab rfl
  refine zza 34 (zB (decide ((cmpQ (Nt.gr k th) (((1:Int):Rat) / (((2^k:Nat):Int):Rat)))≤0))) ?_ (hw:=w1 2 true 29)
  refine zza 35 (zB (decide ((cmpQ (Nt.gr k th) (((1:Int):Rat) / (((2^k:Nat):Int):Rat)))≤0))) (zzc 70 [(1,zI k),(4,.adr 4 0),(5,.adr 5 0),(6,.adr 6 0),(7,.adr 7 0),(8,.adr 8 0),(9,zI j),(35,zB (decide ((cmpQ (Nt.gr k th) (((1:Int):Rat) / (((2^k:Nat):Int):Rat)))≤0)))] [(4,⟨57,zw6⟩),(5,⟨57,y1.cs++y2.cs⟩),(6,⟨57,x1.cs++x2.cs⟩),(7,⟨57,am.cs++an.cs⟩),(8,⟨28,b4.cs⟩)] (zzu (b:=decide ((cmpQ (Nt.gr k th) (((1:Int):Rat) / (((2^k:Nat):Int):Rat)))≤0)) xj (fun aK=>?_) (fun aK=>?_)))
  ·have qhb95:=qyt aK
   refine zzd (zzz [0,0,2,6,0,16,62,127,255] [(0,[]),(1,[]),(2,[]),(4,[]),(5,[]),(3,[]),(6,[]),(7,[]),(8,[])] xj xj (zzi 36 (.v (.agg #[.bool y1.s,y1.m.v,y1.d.v,.bool y2.s,y2.m.v,y2.d.v])) ty57 zze (zza 37 (.adr 6 3) (zzi 38 (.v (x2.v)) ty28 zze (zza 40 (.adr 6 3) (zzi 41 (.v (x2.v)) ty28 zze (zzg 39 59 _ fun _ _ cy fj=>qym (k_rqNeg fj (f1.ext (aa.t (ab.t cy))).raw xq) ?_)))))))
   rintro _ u99 bL ⟨r97,rfl,d6⟩
   refine zzg 42 100 _ fun _ _ be cV=>qym (k_r4Make cV (d6.ext be).raw (f1.ext (aa.t (ab.t (cy.t (bL.t be))))).raw xq) ?_
   rintro _ e7 ck ⟨fh,fg,rfl,c9,c7⟩
   refine zzg 43 159 _ fun _ _ bf dc=>qym (k_r4Add dc (f2.ext (aa.t (ab.t (cy.t (bL.t (be.t (ck.t bf))))))).raw (f3.ext (aa.t (ab.t (cy.t (bL.t (be.t (ck.t bf))))))).raw (c9.ext bf).raw (c7.ext bf).raw xq xq) ?_
   rintro _ eQ eY ⟨a0,aZ,rfl,cC,cW⟩
   refine zzj ⟨57,a0.cs++aZ.cs⟩ ty57 ?_
   refine zzb (zzo (zzw (zyu (zzw (zyt (zyu (ret0 [.agg #[.bool a0.s,a0.m.v,a0.d.v,.bool aZ.s,aZ.m.v,aZ.d.v]] ⟨zzr ty57 zze,trivial⟩ fun eP bX=>?_)))))))
   have hle:1<j∧th≤1:=by have h8:=qyt hs90;have h9:=aK;rw[show (((1:Int):Rat) / (((2^k:Nat):Int):Rat))=Nt.gr k 1 from rfl,cs_end] at h9;have h7:=qyt h9;omega
   have ho:=hI.out hq0 hp hle.1 hle.2
   have hob:=csR_bd ho hq0 hp hk
   refine ⟨a0,aZ,_,_,rfl,RatN.limG (K:=(40+40+2)) (z:=cc - th) ?_ xq xq hk,RatN.limG (K:=(40+40+2)) (z:=dd+th) ?_ xq xq hk,ho⟩
   ·have h9:=(cC.ext bX)
    rw[(cs_o xq hcd).1] at h9
    exact h9
   have h9:=(cW.ext bX)
   rw[(cs_o xq hcd).2] at h9
   exact h9
  have qhb95:=qyf aK
  refine zzs (zzp ?_)
  refine zzd (sq9 (zza 44 (zI j) (zza 45 (zI (Int.tmod (j:Int) 2)) (zza 46 (zB ((Int.tmod (j:Int) 2)==0)) (zzb (zzu (b:=(Int.tmod (j:Int) 2)==0) xj (fun aX=>?_) (fun aX=>?_)))))))
  ·have av:Int.tmod (j:Int) 2=(j:Int)%2:=Int.tmod_eq_emod_of_nonneg xq
   have ak :  j%2=0:=by have h9:=aX;rw[av] at h9;simp at h9;omega
   refine zzf (zzi 47 (.v (.agg #[.bool y1.s,y1.m.v,y1.d.v,.bool y2.s,y2.m.v,y2.d.v])) ty57 zze (zzi 48 (.v (.agg #[.bool x1.s,x1.m.v,x1.d.v,.bool x2.s,x2.m.v,x2.d.v])) ty57 zze (zzg 49 159 _ fun _ _ af cR=>qym (k_r4Add cR (f2.ext (aa.t (ab.t af))).raw (f3.ext (aa.t (ab.t af))).raw (f0.ext (aa.t (ab.t af))).raw (f1.ext (aa.t (ab.t af))).raw xq xq) ?_)))
   rintro _ cg aR ⟨bs,br,rfl,dN,cD⟩
   refine zzj ⟨57,bs.cs++br.cs⟩ ty57 ?_
   refine zzb (zzd ?_)
   have cn:RatN cg bs (Nt.gr k (cc+tl)) (40+40+2):=zRc dN ((cs_a htt hcd).1)
   have bW:RatN cg br (Nt.gr k (dd+th)) (40+40+2):=zRc cD ((cs_a htt hcd).2)
   refine zzf (zza 53 (zI j) (qwi 54 ((2:Int)*(j:Int)) (2*j:Nat) xz (qwi 55 (((2*j:Nat):Int)+1) (((2*j)+1:Nat):Int) xz (zza 56 (zI j) (qwi 57 ((2:Int)*(j:Int)) (2*j:Nat) xz (qwi 58 (((2*j:Nat):Int)+2) (((2*j)+2:Nat):Int) xz (zyq 59 (x:=zI (IntKind.i64.wrap (((2*j+1:Nat):Int)*((2*j+2:Nat):Int)))) (zI (coD j)) (by rw[show (IntKind.i64.wrap (((2*j+1:Nat):Int)*((2*j+2:Nat):Int)))=(coD j) from hD2.1]) (zzg 60 5 _ fun _ _ ao c2=>qym (k_rqFrac c2 (a:=1) (b:=(coD j)) xq xq xq xq) ?_))))))))
   rintro _ d9 aI ⟨bq,rfl,ch⟩
   refine zzk 10 ⟨28,zw3⟩ (zzj ⟨28,bq.cs⟩ ty28 ?_)
   refine zzb (zzz [0,0,3,0,0,31,63,0,255,511] [(0,[]),(1,[]),(3,[]),(4,[]),(7,[]),(2,[]),(5,[]),(6,[]),(8,[]),(9,[])] xj xj (zzi 61 (.v (.agg #[.bool x1.s,x1.m.v,x1.d.v,.bool x2.s,x2.m.v,x2.d.v])) ty57 zze (zzi 62 (.v (.agg #[.bool am.s,am.m.v,am.d.v,.bool an.s,an.m.v,an.d.v])) ty57 zze (zzi 64 (.v (bq.v)) ty28 zze (zzi 65 (.v (bq.v)) ty28 zze (zza 68 (zI k) (zzg 63 103 _ fun _ _ ag dv=>qym (k_r4Mul dv (f0.ext (aa.t (ab.t (af.t (aR.t (ao.t (aI.t ag))))))).raw (f1.ext (aa.t (ab.t (af.t (aR.t (ao.t (aI.t ag))))))).raw (bh.ext (aP.t (aO.t (aN.t (aM.t (aJ.t (aQ.t (aL.t (aa.t (ab.t (af.t (aR.t (ao.t (aI.t ag)))))))))))))).raw (bg.ext (aP.t (aO.t (aN.t (aM.t (aJ.t (aQ.t (aL.t (aa.t (ab.t (af.t (aR.t (ao.t (aI.t ag)))))))))))))).raw xq xq) ?_)))))))
   rintro _ ec a8 ⟨em,eU,rfl,cP,dP⟩
   refine zzg 66 100 _ fun _ _ aH cI=>qym (k_r4Make cI (ch.ext (ag.t (a8.t aH))).raw (ch.ext (ag.t (a8.t aH))).raw xq) ?_
   rintro _ fd a5 ⟨e5,eW,rfl,dy,c8⟩
   refine zzg 67 103 _ fun _ _ aC c0=>qym (k_r4Mul c0 (cP.ext (aH.t (a5.t aC))).raw (dP.ext (aH.t (a5.t aC))).raw (dy.ext aC).raw (c8.ext aC).raw xq xq) ?_
   rintro _ d8 bK ⟨eB,eF,rfl,dB,dk⟩
   refine zzg 69 157 _ fun _ _ aT di=>qym (k_wide (k:=k) di (dB.ext aT).raw (dk.ext aT).raw xq xq) ?_
   rintro _ bV bF ⟨bM,bz,rfl,cM,c6⟩
   refine zzj ⟨57,bM.cs++bz.cs⟩ ty57 ?_
   refine zzx ?_
   refine zzp ?_
   have b1:RatN bV bM (Nt.gr k (csL k j tl ql)) (((40+40+1)+3+1)+70):=zRc cM (congrArg (Nt.gr k) (cs_t (j:=j) (F:=(((1:Int):Rat) / ((coD j:Int):Rat))) ht0 htt bi bj rfl).1)
   have b9:RatN bV bz (Nt.gr k (csH k j th qh)) (((40+40+1)+3+1)+70):=zRc c6 (congrArg (Nt.gr k) (cs_t (j:=j) (F:=(((1:Int):Rat) / ((coD j:Int):Rat))) ht0 htt bi bj rfl).2)
   refine zzf (zza 25 (zI j) (qwi 26 ((j:Int)+1) (j+1:Nat) xz (zza 9 (zI (j+1:Nat)) (zzx ?_))))
   have hne:j≤1∨2≤th:=by have h9:=aK;rw[show (((1:Int):Rat) / (((2^k:Nat):Int):Rat))=Nt.gr k 1 from rfl,cs_end] at h9;have h7:=qyf h9;omega
   have hgo:=hI.go hQ hne (.inl ⟨ak,rfl,rfl⟩)
   have hb9:=hgo.1.bd hq0 hp
   have hw9:=csW_le hk
   have hg0:=hgo.1.t.t0
   have hg1:=hgo.1.t.t1
   have hgt:=hgo.1.t.tt
   have hg2:=hgo.1.t.t2
   have hmm:=hgo.2
   refine ⟨_,?_,_,by exact zzv _ _ _,j+1,bM,bz,bs,br,(csL k j tl ql),(csH k j th qh),(cc+tl),(dd+th),rfl,hgo.1,rfl,(aL.t (aa.t (ab.t (af.t (aR.t (ao.t (aI.t (ag.t (a8.t (aH.t (a5.t (aC.t (bK.t (aT.t bF.ext)))))))))))))),(RatN.limG b1 xq xq hk),(RatN.limG b9 xq xq hk),(RatN.limG (cn.ext (ao.t (aI.t (ag.t (a8.t (aH.t (a5.t (aC.t (bK.t (aT.t bF.ext)))))))))) xq xq hk),(RatN.limG (bW.ext (ao.t (aI.t (ag.t (a8.t (aH.t (a5.t (aC.t (bK.t (aT.t bF.ext)))))))))) xq xq hk)⟩
   omega
  have av:Int.tmod (j:Int) 2=(j:Int)%2:=Int.tmod_eq_emod_of_nonneg xq
  have ak:¬j%2=0:=by have h9:=aX;rw[av] at h9;simp at h9;omega
  refine zzf (zzi 50 (.v (.agg #[.bool y1.s,y1.m.v,y1.d.v,.bool y2.s,y2.m.v,y2.d.v])) ty57 zze (zzi 51 (.v (.agg #[.bool x1.s,x1.m.v,x1.d.v,.bool x2.s,x2.m.v,x2.d.v])) ty57 zze (zzg 52 160 _ fun _ _ ai cG=>qym (k_r4Sub cG (f2.ext (aa.t (ab.t ai))).raw (f3.ext (aa.t (ab.t ai))).raw (f0.ext (aa.t (ab.t ai))).raw (f1.ext (aa.t (ab.t ai))).raw xq xq) ?_)))
  rintro _ b5 aU ⟨bI,bG,rfl,cO,cK⟩
  refine zzj ⟨57,bI.cs++bG.cs⟩ ty57 ?_
  refine zzb (zzd ?_)
  have b8:RatN b5 bI (Nt.gr k (cc - th)) (40+40+2):=zRc cO ((cs_s htt hcd).1)
  have cl:RatN b5 bG (Nt.gr k (dd - tl)) (40+40+2):=zRc cK ((cs_s htt hcd).2)
  refine zzf (zza 53 (zI j) (qwi 54 ((2:Int)*(j:Int)) (2*j:Nat) xz (qwi 55 (((2*j:Nat):Int)+1) (((2*j)+1:Nat):Int) xz (zza 56 (zI j) (qwi 57 ((2:Int)*(j:Int)) (2*j:Nat) xz (qwi 58 (((2*j:Nat):Int)+2) (((2*j)+2:Nat):Int) xz (zyq 59 (x:=zI (IntKind.i64.wrap (((2*j+1:Nat):Int)*((2*j+2:Nat):Int)))) (zI (coD j)) (by rw[show (IntKind.i64.wrap (((2*j+1:Nat):Int)*((2*j+2:Nat):Int)))=(coD j) from hD2.1]) (zzg 60 5 _ fun _ _ aq dI=>qym (k_rqFrac dI (a:=1) (b:=(coD j)) xq xq xq xq) ?_))))))))
  rintro _ e0 aG ⟨bB,rfl,b3⟩
  refine zzk 10 ⟨28,zw3⟩ (zzj ⟨28,bB.cs⟩ ty28 ?_)
  refine zzb (zzz [0,0,3,0,0,31,63,0,255,511] [(0,[]),(1,[]),(3,[]),(4,[]),(7,[]),(2,[]),(5,[]),(6,[]),(8,[]),(9,[])] xj xj (zzi 61 (.v (.agg #[.bool x1.s,x1.m.v,x1.d.v,.bool x2.s,x2.m.v,x2.d.v])) ty57 zze (zzi 62 (.v (.agg #[.bool am.s,am.m.v,am.d.v,.bool an.s,an.m.v,an.d.v])) ty57 zze (zzi 64 (.v (bB.v)) ty28 zze (zzi 65 (.v (bB.v)) ty28 zze (zza 68 (zI k) (zzg 63 103 _ fun _ _ ad dH=>qym (k_r4Mul dH (f0.ext (aa.t (ab.t (ai.t (aU.t (aq.t (aG.t ad))))))).raw (f1.ext (aa.t (ab.t (ai.t (aU.t (aq.t (aG.t ad))))))).raw (bh.ext (aP.t (aO.t (aN.t (aM.t (aJ.t (aQ.t (aL.t (aa.t (ab.t (ai.t (aU.t (aq.t (aG.t ad)))))))))))))).raw (bg.ext (aP.t (aO.t (aN.t (aM.t (aJ.t (aQ.t (aL.t (aa.t (ab.t (ai.t (aU.t (aq.t (aG.t ad)))))))))))))).raw xq xq) ?_)))))))
  rintro _ ei a7 ⟨d2,eh,rfl,dE,cT⟩
  refine zzg 66 100 _ fun _ _ aF cZ=>qym (k_r4Make cZ (b3.ext (ad.t (a7.t aF))).raw (b3.ext (ad.t (a7.t aF))).raw xq) ?_
  rintro _ e9 ba ⟨ea,es,rfl,dp,dF⟩
  refine zzg 67 103 _ fun _ _ aE df=>qym (k_r4Mul df (dE.ext (aF.t (ba.t aE))).raw (cT.ext (aF.t (ba.t aE))).raw (dp.ext aE).raw (dF.ext aE).raw xq xq) ?_
  rintro _ ef bJ ⟨eI,eb,rfl,dR,da⟩
  refine zzg 69 157 _ fun _ _ aS dK=>qym (k_wide (k:=k) dK (dR.ext aS).raw (da.ext aS).raw xq xq) ?_
  rintro _ cq bD ⟨bo,bH,rfl,cY,ds⟩
  refine zzj ⟨57,bo.cs++bH.cs⟩ ty57 ?_
  refine zzx ?_
  refine zzp ?_
  have ca:RatN cq bo (Nt.gr k (csL k j tl ql)) (((40+40+1)+3+1)+70):=zRc cY (congrArg (Nt.gr k) (cs_t (j:=j) (F:=(((1:Int):Rat) / ((coD j:Int):Rat))) ht0 htt bi bj rfl).1)
  have bT:RatN cq bH (Nt.gr k (csH k j th qh)) (((40+40+1)+3+1)+70):=zRc ds (congrArg (Nt.gr k) (cs_t (j:=j) (F:=(((1:Int):Rat) / ((coD j:Int):Rat))) ht0 htt bi bj rfl).2)
  refine zzf (zza 25 (zI j) (qwi 26 ((j:Int)+1) (j+1:Nat) xz (zza 9 (zI (j+1:Nat)) (zzx ?_))))
  have hne:j≤1∨2≤th:=by have h9:=aK;rw[show (((1:Int):Rat) / (((2^k:Nat):Int):Rat))=Nt.gr k 1 from rfl,cs_end] at h9;have h7:=qyf h9;omega
  have hgo:=hI.go hQ hne (.inr ⟨ak,rfl,rfl⟩)
  have hb9:=hgo.1.bd hq0 hp
  have hw9:=csW_le hk
  have hg0:=hgo.1.t.t0
  have hg1:=hgo.1.t.t1
  have hgt:=hgo.1.t.tt
  have hg2:=hgo.1.t.t2
  have hmm:=hgo.2
  refine ⟨_,?_,_,by exact zzv _ _ _,j+1,bo,bH,bI,bG,(csL k j tl ql),(csH k j th qh),(cc - th),(dd - tl),rfl,hgo.1,rfl,(aL.t (aa.t (ab.t (ai.t (aU.t (aq.t (aG.t (ad.t (a7.t (aF.t (ba.t (aE.t (bJ.t (aS.t bD.ext)))))))))))))),(RatN.limG ca xq xq hk),(RatN.limG bT xq xq hk),(RatN.limG (b8.ext (aq.t (aG.t (ad.t (a7.t (aF.t (ba.t (aE.t (bJ.t (aS.t bD.ext)))))))))) xq xq hk),(RatN.limG (cl.ext (aq.t (aG.t (ad.t (a7.t (aF.t (ba.t (aE.t (bJ.t (aS.t bD.ext)))))))))) xq xq hk)⟩
  omega
 refine qbi 29 hs90 ?_
 have qhs90:=qyf hs90
 refine zzn 30 (uw 2 true false 29) (zzn 31 (uw 2 true false 29) (zzn 32 (uw 2 true false 29) (zzn 33 (uw 2 true false 29) (zzn 34 (uw 2 true false 29) (zza 35 (zB false) (zzc 70 [(1,zI k),(4,.adr 4 0),(5,.adr 5 0),(6,.adr 6 0),(7,.adr 7 0),(8,.adr 8 0),(9,zI j),(35,zB false)] [(4,⟨57,zw6⟩),(5,⟨57,y1.cs++y2.cs⟩),(6,⟨57,x1.cs++x2.cs⟩),(7,⟨57,am.cs++an.cs⟩),(8,⟨28,b4.cs⟩)] (zys xj (zzs (zzp ?_)))))))))
 refine zzd (sq9 (zza 44 (zI j) (zza 45 (zI (Int.tmod (j:Int) 2)) (zza 46 (zB ((Int.tmod (j:Int) 2)==0)) (zzb (zzu (b:=(Int.tmod (j:Int) 2)==0) xj (fun a9=>?_) (fun a9=>?_)))))))
 ·have ax:Int.tmod (j:Int) 2=(j:Int)%2:=Int.tmod_eq_emod_of_nonneg xq
  have ae :  j%2=0:=by have h9:=a9;rw[ax] at h9;simp at h9;omega
  refine zzf (zzi 47 (.v (.agg #[.bool y1.s,y1.m.v,y1.d.v,.bool y2.s,y2.m.v,y2.d.v])) ty57 zze (zzi 48 (.v (.agg #[.bool x1.s,x1.m.v,x1.d.v,.bool x2.s,x2.m.v,x2.d.v])) ty57 zze (zzg 49 159 _ fun _ _ al dL=>qym (k_r4Add dL (f2.ext al).raw (f3.ext al).raw (f0.ext al).raw (f1.ext al).raw xq xq) ?_)))
  rintro _ b7 aV ⟨bx,bA,rfl,dJ,dC⟩
  refine zzj ⟨57,bx.cs++bA.cs⟩ ty57 ?_
  refine zzb (zzd ?_)
  have cj:RatN b7 bx (Nt.gr k (cc+tl)) (40+40+2):=zRc dJ ((cs_a htt hcd).1)
  have bU:RatN b7 bA (Nt.gr k (dd+th)) (40+40+2):=zRc dC ((cs_a htt hcd).2)
  refine zzf (zza 53 (zI j) (qwi 54 ((2:Int)*(j:Int)) (2*j:Nat) xz (qwi 55 (((2*j:Nat):Int)+1) (((2*j)+1:Nat):Int) xz (zza 56 (zI j) (qwi 57 ((2:Int)*(j:Int)) (2*j:Nat) xz (qwi 58 (((2*j:Nat):Int)+2) (((2*j)+2:Nat):Int) xz (zyq 59 (x:=zI (IntKind.i64.wrap (((2*j+1:Nat):Int)*((2*j+2:Nat):Int)))) (zI (coD j)) (by rw[show (IntKind.i64.wrap (((2*j+1:Nat):Int)*((2*j+2:Nat):Int)))=(coD j) from hD2.1]) (zzg 60 5 _ fun _ _ aB dQ=>qym (k_rqFrac dQ (a:=1) (b:=(coD j)) xq xq xq xq) ?_))))))))
  rintro _ en au ⟨bv,rfl,b6⟩
  refine zzk 10 ⟨28,zw3⟩ (zzj ⟨28,bv.cs⟩ ty28 ?_)
  refine zzb (zzz [0,0,3,0,0,31,63,0,255,511] [(0,[]),(1,[]),(3,[]),(4,[]),(7,[]),(2,[]),(5,[]),(6,[]),(8,[]),(9,[])] xj xj (zzi 61 (.v (.agg #[.bool x1.s,x1.m.v,x1.d.v,.bool x2.s,x2.m.v,x2.d.v])) ty57 zze (zzi 62 (.v (.agg #[.bool am.s,am.m.v,am.d.v,.bool an.s,an.m.v,an.d.v])) ty57 zze (zzi 64 (.v (bv.v)) ty28 zze (zzi 65 (.v (bv.v)) ty28 zze (zza 68 (zI k) (zzg 63 103 _ fun _ _ ah cL=>qym (k_r4Mul cL (f0.ext (al.t (aV.t (aB.t (au.t ah))))).raw (f1.ext (al.t (aV.t (aB.t (au.t ah))))).raw (bh.ext (aP.t (aO.t (aN.t (aM.t (aJ.t (aQ.t (aL.t (al.t (aV.t (aB.t (au.t ah)))))))))))).raw (bg.ext (aP.t (aO.t (aN.t (aM.t (aJ.t (aQ.t (aL.t (al.t (aV.t (aB.t (au.t ah)))))))))))).raw xq xq) ?_)))))))
  rintro _ d3 aW ⟨eu,e4,rfl,dS,cE⟩
  refine zzg 66 100 _ fun _ _ ay cS=>qym (k_r4Make cS (b6.ext (ah.t (aW.t ay))).raw (b6.ext (ah.t (aW.t ay))).raw xq) ?_
  rintro _ eS aY ⟨eR,eL,rfl,cN,dm⟩
  refine zzg 67 103 _ fun _ _ aA de=>qym (k_r4Mul de (dS.ext (ay.t (aY.t aA))).raw (cE.ext (ay.t (aY.t aA))).raw (cN.ext aA).raw (dm.ext aA).raw xq xq) ?_
  rintro _ d4 bC ⟨eX,eO,rfl,c4,dn⟩
  refine zzg 69 157 _ fun _ _ bc c5=>qym (k_wide (k:=k) c5 (c4.ext bc).raw (dn.ext bc).raw xq xq) ?_
  rintro _ bZ bN ⟨bO,bl,rfl,dw,dG⟩
  refine zzj ⟨57,bO.cs++bl.cs⟩ ty57 ?_
  refine zzx ?_
  refine zzp ?_
  have bY:RatN bZ bO (Nt.gr k (csL k j tl ql)) (((40+40+1)+3+1)+70):=zRc dw (congrArg (Nt.gr k) (cs_t (j:=j) (F:=(((1:Int):Rat) / ((coD j:Int):Rat))) ht0 htt bi bj rfl).1)
  have b2:RatN bZ bl (Nt.gr k (csH k j th qh)) (((40+40+1)+3+1)+70):=zRc dG (congrArg (Nt.gr k) (cs_t (j:=j) (F:=(((1:Int):Rat) / ((coD j:Int):Rat))) ht0 htt bi bj rfl).2)
  refine zzf (zza 25 (zI j) (qwi 26 ((j:Int)+1) (j+1:Nat) xz (zza 9 (zI (j+1:Nat)) (zzx ?_))))
  have hne:j≤1∨2≤th:=by have h8:=qyf hs90;omega
  have hgo:=hI.go hQ hne (.inl ⟨ae,rfl,rfl⟩)
  have hb9:=hgo.1.bd hq0 hp
  have hw9:=csW_le hk
  have hg0:=hgo.1.t.t0
  have hg1:=hgo.1.t.t1
  have hgt:=hgo.1.t.tt
  have hg2:=hgo.1.t.t2
  have hmm:=hgo.2
  refine ⟨_,?_,_,by exact zzv _ _ _,j+1,bO,bl,bx,bA,(csL k j tl ql),(csH k j th qh),(cc+tl),(dd+th),rfl,hgo.1,rfl,(aL.t (al.t (aV.t (aB.t (au.t (ah.t (aW.t (ay.t (aY.t (aA.t (bC.t (bc.t bN.ext)))))))))))),(RatN.limG bY xq xq hk),(RatN.limG b2 xq xq hk),(RatN.limG (cj.ext (aB.t (au.t (ah.t (aW.t (ay.t (aY.t (aA.t (bC.t (bc.t bN.ext)))))))))) xq xq hk),(RatN.limG (bU.ext (aB.t (au.t (ah.t (aW.t (ay.t (aY.t (aA.t (bC.t (bc.t bN.ext)))))))))) xq xq hk)⟩
  omega
 have ax:Int.tmod (j:Int) 2=(j:Int)%2:=Int.tmod_eq_emod_of_nonneg xq
 have ae:¬j%2=0:=by have h9:=a9;rw[ax] at h9;simp at h9;omega
 refine zzf (zzi 50 (.v (.agg #[.bool y1.s,y1.m.v,y1.d.v,.bool y2.s,y2.m.v,y2.d.v])) ty57 zze (zzi 51 (.v (.agg #[.bool x1.s,x1.m.v,x1.d.v,.bool x2.s,x2.m.v,x2.d.v])) ty57 zze (zzg 52 160 _ fun _ _ aj dA=>qym (k_r4Sub dA (f2.ext aj).raw (f3.ext aj).raw (f0.ext aj).raw (f1.ext aj).raw xq xq) ?_)))
 rintro _ cr bb ⟨bt,bE,rfl,dO,du⟩
 refine zzj ⟨57,bt.cs++bE.cs⟩ ty57 ?_
 refine zzb (zzd ?_)
 have cp:RatN cr bt (Nt.gr k (cc - th)) (40+40+2):=zRc dO ((cs_s htt hcd).1)
 have cf:RatN cr bE (Nt.gr k (dd - tl)) (40+40+2):=zRc du ((cs_s htt hcd).2)
 refine zzf (zza 53 (zI j) (qwi 54 ((2:Int)*(j:Int)) (2*j:Nat) xz (qwi 55 (((2*j:Nat):Int)+1) (((2*j)+1:Nat):Int) xz (zza 56 (zI j) (qwi 57 ((2:Int)*(j:Int)) (2*j:Nat) xz (qwi 58 (((2*j:Nat):Int)+2) (((2*j)+2:Nat):Int) xz (zyq 59 (x:=zI (IntKind.i64.wrap (((2*j+1:Nat):Int)*((2*j+2:Nat):Int)))) (zI (coD j)) (by rw[show (IntKind.i64.wrap (((2*j+1:Nat):Int)*((2*j+2:Nat):Int)))=(coD j) from hD2.1]) (zzg 60 5 _ fun _ _ ap cU=>qym (k_rqFrac cU (a:=1) (b:=(coD j)) xq xq xq xq) ?_))))))))
 rintro _ er ar ⟨bP,rfl,ci⟩
 refine zzk 10 ⟨28,zw3⟩ (zzj ⟨28,bP.cs⟩ ty28 ?_)
 refine zzb (zzz [0,0,3,0,0,31,63,0,255,511] [(0,[]),(1,[]),(3,[]),(4,[]),(7,[]),(2,[]),(5,[]),(6,[]),(8,[]),(9,[])] xj xj (zzi 61 (.v (.agg #[.bool x1.s,x1.m.v,x1.d.v,.bool x2.s,x2.m.v,x2.d.v])) ty57 zze (zzi 62 (.v (.agg #[.bool am.s,am.m.v,am.d.v,.bool an.s,an.m.v,an.d.v])) ty57 zze (zzi 64 (.v (bP.v)) ty28 zze (zzi 65 (.v (bP.v)) ty28 zze (zza 68 (zI k) (zzg 63 103 _ fun _ _ ac dt=>qym (k_r4Mul dt (f0.ext (aj.t (bb.t (ap.t (ar.t ac))))).raw (f1.ext (aj.t (bb.t (ap.t (ar.t ac))))).raw (bh.ext (aP.t (aO.t (aN.t (aM.t (aJ.t (aQ.t (aL.t (aj.t (bb.t (ap.t (ar.t ac)))))))))))).raw (bg.ext (aP.t (aO.t (aN.t (aM.t (aJ.t (aQ.t (aL.t (aj.t (bb.t (ap.t (ar.t ac)))))))))))).raw xq xq) ?_)))))))
 rintro _ eA a6 ⟨eM,fa,rfl,cJ,cQ⟩
 refine zzg 66 100 _ fun _ _ aD dj=>qym (k_r4Make dj (ci.ext (ac.t (a6.t aD))).raw (ci.ext (ac.t (a6.t aD))).raw xq) ?_
 rintro _ eK a3 ⟨eZ,eq,rfl,c1,c3⟩
 refine zzg 67 103 _ fun _ _ aw db=>qym (k_r4Mul db (cJ.ext (aD.t (a3.t aw))).raw (cQ.ext (aD.t (a3.t aw))).raw (c1.ext aw).raw (c3.ext aw).raw xq xq) ?_
 rintro _ eH bn ⟨el,fe,rfl,dD,dM⟩
 refine zzg 69 157 _ fun _ _ a4 dq=>qym (k_wide (k:=k) dq (dD.ext a4).raw (dM.ext a4).raw xq xq) ?_
 rintro _ cb bw ⟨bu,bk,rfl,dh,dx⟩
 refine zzj ⟨57,bu.cs++bk.cs⟩ ty57 ?_
 refine zzx ?_
 refine zzp ?_
 have ce:RatN cb bu (Nt.gr k (csL k j tl ql)) (((40+40+1)+3+1)+70):=zRc dh (congrArg (Nt.gr k) (cs_t (j:=j) (F:=(((1:Int):Rat) / ((coD j:Int):Rat))) ht0 htt bi bj rfl).1)
 have cm:RatN cb bk (Nt.gr k (csH k j th qh)) (((40+40+1)+3+1)+70):=zRc dx (congrArg (Nt.gr k) (cs_t (j:=j) (F:=(((1:Int):Rat) / ((coD j:Int):Rat))) ht0 htt bi bj rfl).2)
 refine zzf (zza 25 (zI j) (qwi 26 ((j:Int)+1) (j+1:Nat) xz (zza 9 (zI (j+1:Nat)) (zzx ?_))))
 have hne:j≤1∨2≤th:=by have h8:=qyf hs90;omega
 have hgo:=hI.go hQ hne (.inr ⟨ae,rfl,rfl⟩)
 have hb9:=hgo.1.bd hq0 hp
 have hw9:=csW_le hk
 have hg0:=hgo.1.t.t0
 have hg1:=hgo.1.t.t1
 have hgt:=hgo.1.t.tt
 have hg2:=hgo.1.t.t2
 have hmm:=hgo.2
 refine ⟨_,?_,_,by exact zzv _ _ _,j+1,bu,bk,bt,bE,(csL k j tl ql),(csH k j th qh),(cc - th),(dd - tl),rfl,hgo.1,rfl,(aL.t (aj.t (bb.t (ap.t (ar.t (ac.t (a6.t (aD.t (a3.t (aw.t (bn.t (a4.t bw.ext)))))))))))),(RatN.limG ce xq xq hk),(RatN.limG cm xq xq hk),(RatN.limG (cp.ext (ap.t (ar.t (ac.t (a6.t (aD.t (a3.t (aw.t (bn.t (a4.t bw.ext)))))))))) xq xq hk),(RatN.limG (cf.ext (ap.t (ar.t (ac.t (a6.t (aD.t (a3.t (aw.t (bn.t (a4.t bw.ext)))))))))) xq xq hk)⟩
 omega
theorem k_r10tight {u w:World} {a1 a2:RL} {a b:Int} {k m:Nat} (d:Dat u w) (ha1:RatN u a1 (Nt.gr m a) 40) (ha2:RatN u a2 (Nt.gr m b) 40) (hkm:k≤m) (hk:k≤256) (hm:m≤800):qyc 101 #[IV a1 a2,.int .i64 (k:Int)] w (Post u w fun v u'=>∃r1 r2:RL,v=.tuple #[IV r1 r2,.bool (!(cmpS (a / Nt.u2 (m - k)) (b / Nt.u2 (m - k)) != 0))]∧((cmpS (a / Nt.u2 (m - k)) (b / Nt.u2 (m - k)) != 0)=false→RatN u' r1 (Nt.gr k (a / Nt.u2 (m - k))) 200∧RatN u' r2 (Nt.gr k (a / Nt.u2 (m - k)+1)) 200)):=by
 refine zzm Tryz.func101 rfl Tryz.ntmps101 Tryz.results101 d ?_
 refine sq9 (zzk 2 ⟨57,a1.cs++a2.cs⟩ (zzk 4 ⟨57,zw6⟩ (zza 5 (zB false) (zzb (sq9 (zza 10 (zI k) (zzg 11 95 _ fun _ _ aF aN=>qym (k_unit (k:=k) aN xq) ?_)))))))
 rintro _ u14 aG ⟨ak,rfl,an⟩
 refine zzk 6 ⟨28,zw3⟩ (zzj ⟨28,ak.cs⟩ ty28 ?_)
 refine zzb (zzd (zzz [0,1,0,7,15,0,32,0,255,511,0,0,4095,8191] [(0,[]),(1,[]),(2,[]),(5,[]),(6,[]),(7,[]),(10,[]),(11,[]),(3,[]),(4,[]),(8,[]),(9,[]),(12,[]),(13,[])] xj xj (zza 12 (.adr 2 0) (zzi 13 (.v (a1.v)) ty28 zze (zzi 14 (.v (ak.v)) ty28 zze (zza 17 (.adr 2 3) (zzi 18 (.v (a2.v)) ty28 zze (zzi 19 (.v (ak.v)) ty28 zze (zzk 7 ⟨26,[.bool false,qyn]⟩ (zzk 8 ⟨26,[.bool false,qyn]⟩ (zzg 15 15 _ fun _ _ af aP=>qym (k_rqMul aP (ha1.ext (aF.t (aG.t af))).raw (an.ext af).raw xq xq) ?_)))))))))))
 rintro _ u20 aw ⟨r18,rfl,a5⟩
 refine zzg 16 97 _ fun _ _ aj aZ=>qym (k_floor aZ (a5.ext aj).raw xq) ?_
 rintro _ u26 aq ⟨aa,rfl,aT⟩
 refine zzg 20 15 _ fun _ _ ai aR=>qym (k_rqMul aR (ha2.ext (aF.t (aG.t (af.t (aw.t (aj.t (aq.t ai))))))).raw (an.ext (af.t (aw.t (aj.t (aq.t ai))))).raw xq xq) ?_
 rintro _ aQ aC ⟨r30,rfl,a3⟩
 refine zzg 21 97 _ fun _ _ ap aO=>qym (k_floor aO (a3.ext ap).raw xq) ?_
 rintro _ aE ax ⟨aA,rfl,a4⟩
 refine zzj ⟨26,aa.cs⟩ ty26 ?_
 refine zzj ⟨26,aA.cs⟩ ty26 ?_
 refine zzb (zzd (zzd ?_))
 have ae:IntN aE aa (a / Nt.u2 (m - k)) ((40+(k / 32+2)+1)+1):=by have h9:=(aT.ext (ai.t (aC.t (ap.t ax.ext))));rw[flr_gr hkm] at h9;exact h9
 have aB:IntN aE aA (b / Nt.u2 (m - k)) ((40+(k / 32+2)+1)+1):=by have h9:=a4;rw[flr_gr hkm] at h9;exact h9
 refine zzf (zzi 22 (.v (aa.v)) ty26 zze (zzi 23 (.v (aA.v)) ty26 zze (zzg 24 54 _ fun _ _ ah aM=>qym (k_riCompare aM (ae.ext ah).raw (aB.ext ah).raw xq xq) ?_)))
 rintro _ u44 am rfl
 refine zza 25 (zB ((cmpS (a / Nt.u2 (m - k)) (b / Nt.u2 (m - k))) != 0)) (zzb (zzu (b:=(cmpS (a / Nt.u2 (m - k)) (b / Nt.u2 (m - k))) != 0) xj (fun ad=>?_) (fun ad=>?_)))
 ·refine sq9 (zza 26 (.v (.agg #[.bool false,qyn,qyn,.bool false,qyn,qyn])) (zzj ⟨57,zw6⟩ ty57 ?_))
  refine zza 5 (zB false) (zzb (zzo (zzw (ret0 [.agg #[.bool false,qyn,qyn,.bool false,qyn,qyn],.bool false] ⟨zzr ty57 zze,zzq,trivial⟩ fun u48 e49=>?_))))
  refine ⟨(⟨false,⟨none,0,0⟩,⟨none,0,0⟩⟩:RL),(⟨false,⟨none,0,0⟩,⟨none,0,0⟩⟩:RL),?_,fun h8=>absurd (h8.symm.trans ad) yq⟩
  rw[ad];rfl
 refine zzs (zzp ?_)
 refine sq9 (zzi 27 (.v (aa.v)) ty26 zze (zxx 28 ⟨79,[.int .u32 1]⟩ 1 (fun ao u51 av aJ=>?_)))
 refine zza 29 (.v (.agg #[.bool aa.s,aa.m.v,.slice (some ⟨ao,0,none⟩) 1 1])) (zzk 9 ⟨28,zw3⟩ (zzj ⟨28,aa.cs++[.slice (some ⟨ao,0,none⟩) 1 1]⟩ ty28 ?_))
 refine zzb (zzd (zzz [0,0,3,0,7,31,0,127,255,511,1023] [(0,[]),(1,[]),(3,[]),(6,[]),(2,[]),(4,[]),(5,[]),(7,[]),(8,[]),(9,[]),(10,[])] xj xj (zzi 30 (.v (.agg #[.bool aa.s,aa.m.v,.slice (some ⟨ao,0,none⟩) 1 1])) ty28 zze (zzi 31 (.v (ak.v)) ty28 zze (zzi 33 (.v (.agg #[.bool aa.s,aa.m.v,.slice (some ⟨ao,0,none⟩) 1 1])) ty28 zze (zzi 36 (.v (ak.v)) ty28 zze (zzg 32 98 _ fun _ _ ag a0=>qym (k_rqOver a0 (rat_mk2 (s:=aa.s) (ae.ext (ah.t (am.t (av.trans ag)))).raw ((one_data aJ).ext ag).raw) (an.ext (af.t (aw.t (aj.t (aq.t (ai.t (aC.t (ap.t (ax.t (ah.t (am.t (av.trans ag)))))))))))).raw xq xq) ?_)))))))
 rintro _ u57 aD ⟨ab,rfl,aL⟩
 refine zzg 34 11 _ fun _ _ ar aS=>qym (k_rqOf aS (z:=1) xq xq) ?_
 rintro _ u63 au ⟨r61,rfl,aX⟩
 refine zzg 35 17 _ fun _ _ al aK=>qym (k_rqAdd aK (rat_mk2 (s:=aa.s) (ae.ext (ah.t (am.t (av.t (ag.t (aD.t (ar.t (au.t al)))))))).raw ((one_data aJ).ext (ag.t (aD.t (ar.t (au.t al))))).raw) (aX.ext al).raw xq xq) ?_
 rintro _ u69 aH ⟨r67,rfl,aW⟩
 refine zzg 37 98 _ fun _ _ ay aV=>qym (k_rqOver aV (aW.ext ay).raw (an.ext (af.t (aw.t (aj.t (aq.t (ai.t (aC.t (ap.t (ax.t (ah.t (am.t (av.t (ag.t (aD.t (ar.t (au.t (al.t (aH.t ay)))))))))))))))))).raw xq xq) ?_
 rintro _ u75 aY ⟨ac,rfl,aU⟩
 refine zza 38 (.v (.agg #[.bool ab.s,ab.m.v,ab.d.v,.bool ac.s,ac.m.v,ac.d.v])) (zzj ⟨57,ab.cs++ac.cs⟩ ty57 ?_)
 refine zza 5 (zB true) (zzc 39 [(4,.adr 4 0),(5,zB true)] [(4,⟨57,ab.cs++ac.cs⟩)] (zzo (ret0 [.agg #[.bool ab.s,ab.m.v,ab.d.v,.bool ac.s,ac.m.v,ac.d.v],.bool true] ⟨zzr ty57 zze,zzq,trivial⟩ fun u78 aI=>?_)))
 refine ⟨ab,ac,by rw[ad];rfl,fun _=>⟨RatN.more (K:=((max (max ((40+(k / 32+2)+1)+1) 1) 1)+(k / 32+2)+2)) ?_ xq,RatN.more (K:=(((max (max ((40+(k / 32+2)+1)+1) 1) 1)+2+2)+(k / 32+2)+2)) ?_ xq⟩⟩
 ·have h9:=(aL.ext (ar.t (au.t (al.t (aH.t (ay.t (aY.t aI)))))))
  rw[tight_lo] at h9
  exact h9
 have h9:=(aU.ext aI)
 rw[tight_hi] at h9
 exact h9
theorem Nt.not_f {b:Bool} (h:(!b)=false):b=true:=by cases b with | true=>rfl | false=>exact absurd h yq
theorem Nt.not_t {b:Bool} (h:(!b)=true):b=false:=by cases b with | false=>rfl | true=>exact absurd h yq
def IfI (u:World) (ok:Bool) (r1 r2:RL) (x y:Rat):Prop:=ok=true→RatN u r1 x 200∧RatN u r2 y 200
theorem IfI.ext {u u':World} {ok:Bool} {r1 r2:RL} {x y:Rat} (h:IfI u ok r1 r2 x y) (e:Ext u u'):IfI u' ok r1 r2 x y:=fun k=>⟨(h k).1.ext e,(h k).2.ext e⟩
theorem k_r10bad {u w:World} {n:Int} (d:Dat u w):qyc 94 #[.int .i64 n] w (Post u w fun v _=>v=.bool (decide (n<0∨256<n))):=by
 refine zzm Tryz.func94 rfl Tryz.ntmps94 Tryz.results94 d ?_
 refine sq9 (zza 2 (zB false) (zzb (sq9 (zza 3 (zI n) (zza 4 (zB (decide (n<0))) ?_)))))
 rcases Bool.eq_false_or_eq_true (decide (n<0)) with hs11 | hs11
 ·refine qbi 5 hs11 ?_
  have qhs11:=qyt hs11
  refine zzn 6 (uw 2 false true 5) (zzn 7 (uw 2 false true 5) (zza 8 (zB true) (zza 2 (zB true) (zzb (zzo (ret0 [.bool true] ⟨zzq,trivial⟩ fun u12 e13=>?_))))))
  show Value.bool _=Value.bool _
  congr 1
  symm
  exact decide_eq_true (.inl (qyt hs11))
 refine qbi 5 hs11 ?_
 have qhs11:=qyf hs11
 refine zza 6 (zI n) ?_ (hw:=w1 2 false 5)
 refine zza 7 (zB (decide ((256:Int)<n))) ?_ (hw:=w1 2 false 5)
 refine zza 8 (zB (decide ((256:Int)<n))) (zza 2 (zB (decide ((256:Int)<n))) (zzb (zzo (ret0 [.bool (decide ((256:Int)<n))] ⟨zzq,trivial⟩ fun u14 e15=>?_))))
 show Value.bool _=Value.bool _
 congr 1
 symm
 have h9:=qyf hs11
 by_cases h8:256<n
 ·rw[decide_eq_true h8];exact decide_eq_true (.inr h8)
 rw[decide_eq_false h8];exact decide_eq_false (fun h=>h.elim h9 h8)
theorem k_r10point {u w:World} {r:RL} {q:Rat} {K k:Nat} (d:Dat u w) (hr:RatN u r q K) (hk:k≤256) (hK:K≤10):qyc 99 #[r.v,.int .i64 (k:Int)] w (Post u w fun v u'=>∃r1 r2:RL,v=IV r1 r2∧RatN u' r1 (dnQ q k) 80∧RatN u' r2 (-dnQ (-q) k) 80):=by
 refine zzm Tryz.func99 rfl Tryz.ntmps99 Tryz.results99 d ?_
 refine sq9 (zzk 2 ⟨28,r.cs⟩ (zzk 4 ⟨57,zw6⟩ (zzb (sq9 (zzi 8 (.v (r.v)) ty28 zze (zzi 9 (.v (r.v)) ty28 zze (zzg 10 100 _ fun _ _ ad ae=>qym (k_r4Make ae (hr.ext ad).raw (hr.ext ad).raw xq) ?_)))))))
 rintro _ u16 g17 ⟨r12,r14,rfl,ag,ah⟩
 refine zza 11 (zI k) (zzg 12 155 _ fun _ _ ac af=>qym (k_r4RoundG (k:=k) xq af (ag.ext ac).raw (ah.ext ac).raw xq) ?_)
 rintro _ u23 g24 ⟨ab,aa,rfl,aj⟩
 refine zza 7 (.v (.tuple #[.agg #[.bool ab.s,ab.m.v,ab.d.v,.bool aa.s,aa.m.v,aa.d.v],.int .i64 (rndE (k:Int))])) (zza 13 (.v (.agg #[.bool ab.s,ab.m.v,ab.d.v,.bool aa.s,aa.m.v,aa.d.v])) (zza 14 (zI (rndE (k:Int))) (zzk 5 ⟨57,zw6⟩ (zzj ⟨57,ab.cs++aa.cs⟩ ty57 ?_))))
 refine zza 6 (zI (rndE (k:Int))) (zzb (sq9 (zzi 15 (.v (.agg #[.bool ab.s,ab.m.v,ab.d.v,.bool aa.s,aa.m.v,aa.d.v])) ty57 zze (zzj ⟨57,ab.cs++aa.cs⟩ ty57 ?_))))
 refine zzb (zzo (ret0 [.agg #[.bool ab.s,ab.m.v,ab.d.v,.bool aa.s,aa.m.v,aa.d.v]] ⟨zzr ty57 zze,trivial⟩ fun u26 ai=>?_))
 have h9:=(aj.ext ai)
 rw[rnd_pt hk] at h9
 exact ⟨ab,aa,rfl,RatN.more h9.1 xq,RatN.more h9.2 xq⟩
end Go.Proofs.YtedobdigeeflcaaGreat
namespace Go.Proofs.YtedobdigeeflcaaGreat
open Nt
namespace Nt
theorem rt_scale (n k:Nat):(((2^k:Nat):Int):Rat)^n=((2^(n*k):Nat):Rat):=by
 have e:(((2^k:Nat):Int):Rat)=((2^k:Nat):Rat):=rfl
 rw[e,← rat_pow_cast,← Nat.pow_mul,Nat.mul_comm]
theorem flr_rtD {q:Rat} {n k:Nat} (hq:0≤q):(flr (q*(((2^k:Nat):Int):Rat)^n)).natAbs=rtD q n k:=by
 have h2:0≤q.num:=Rat.num_nonneg.2 hq
 have hd:=q.den_pos
 have e:q*(((2^k:Nat):Int):Rat)^n=mkRat ((q.num.natAbs*2^(n*k):Nat):Int) q.den:=by
  rw[rt_scale,← mk_div]
  have hdr:=cast_pos hd
  have h3:=q_den hq
  have e1:(((q.num.natAbs*2^(n*k):Nat):Int):Rat)=(q.num.natAbs:Rat)*((2^(n*k):Nat):Rat):=by
   have:(((q.num.natAbs*2^(n*k):Nat):Int):Rat)=((q.num.natAbs*2^(n*k):Nat):Rat):=rfl
   rw[this,Rat.natCast_mul]
  rw[e1,← h3]
  have e2:((q.den:Int):Rat)=(q.den:Rat):=rfl
  rw[e2]
  generalize ((2^(n*k):Nat):Rat)=P at *
  generalize (q.den:Rat)=D at *
  have hD:D≠0:=by grind
  grind
 rw[e,flr_mk hd,← Int.natCast_ediv,Int.natAbs_natCast]
 rfl
theorem rt_cmp {q:Rat} {n k:Nat} (hq:0≤q) (hn:1≤n):decide (cmpQ (mkRat ((rtN q n k:Nat):Int) 1^n) (q*(((2^k:Nat):Int):Rat)^n)<0)=true↔¬rtX q n k:=by
 rw[cmpQ_lt,decide_eq_true_iff,mk_one,rt_scale]
 obtain ⟨h1,h2,h3⟩:=rt_tight (k:=k) hq hn
 have h4:=gr_pow k (rtN q n k) n
 have e0:(((rtN q n k:Nat):Int):Rat)^n=((rtN q n k^n:Nat):Rat):=by
  have:(((rtN q n k:Nat):Int):Rat)=((rtN q n k:Nat):Rat):=rfl
  rw[this,rat_pow_cast]
 rw[e0,← h4,← h3]
 have hp:=cast_pos (Nat.pow_pos (n:=n*k) (show 0<2 by decide))
 generalize gr k (rtN q n k:Int)^n=y at *
 generalize ((2^(n*k):Nat):Rat)=P at *
 constructor
 ·intro h e;rw[e] at h;grind
 intro h
 by_cases h5:y*P<q*P
 ·exact h5
 have h5:=Rat.not_lt.1 h5
 have:=Rat.le_of_mul_le_mul_right h5 hp
 exact absurd (Rat.le_antisymm h1 this) h
theorem rt_lo (k:Nat) (z:Int):mkRat z 1 / (((2^k:Nat):Int):Rat)=gr k z:=by rw[mk_one];rfl
theorem rt_hi (k:Nat) (z:Int):(mkRat z 1+((1:Int):Rat)) / (((2^k:Nat):Int):Rat)=gr k (z+1):=by
 rw[mk_one,← Rat.intCast_add];rfl
def rootB (q:Rat) (n b:Int):Prop:=0≤q∧0≤b∧b≤256∧1≤n∧n≤64
instance (q:Rat) (n b:Int):Decidable (rootB q n b):=by unfold rootB;infer_instance
end Nt
open Go.RowKit
theorem k_rnBitLen {u w:World} {x:Sl} {N K:Nat} (d:Dat u w) (h:NatV u x N K) (hK:K≤500000000):qyc 153 #[x.v] w (Post u w fun v _=>v=.int .i64 ((bitl N:Nat):Int)):=by
 obtain ⟨a,a1,a2,a3,a4⟩:=h
 refine (rBitLen_any _ _ _ _ _ (a1.ext d.ext) a2 xq).mono fun e w' ⟨he,hb⟩=>?_
 rw[a4,Int.toNat_natCast] at he
 exact post_below d he hb
theorem k_rnPow {u w:World} {x:Sl} {M K n:Nat} (d:Dat u w) (hx:NatV u x M K) (hn:n≤64) (hK:K≤1000000):qyc 154 #[x.v,.int .i64 (n:Int)] w (Post u w fun v u'=>∃y:Sl,v=.tuple #[y.v,.int .i64 0]∧NatN u' y (M^n) (n*K+1)):=by
 refine zzm Tryz.func154 rfl Tryz.ntmps154 Tryz.results154 d ?_
 refine sq9 (zza 4 (.v (qyn)) (zza 5 (zI 0) (zzb (zzd (sq9 (zza 7 (zI n) (zza 8 (zB (decide ((n:Int)<0))) (zyq 9 (x:=zB (decide ((n:Int)<0))) (zB false) (by rw[show (decide ((n:Int)<0))=false from decide_eq_false xq]) (zza 10 (zI n) ?_ (hw:=w1 2 false 9))))))))))
 refine zza 11 (zB (decide ((64:Int)<(n:Int)))) ?_ (hw:=w1 2 false 9)
 refine zza 12 (zB (decide ((64:Int)<(n:Int)))) (zzb (zzu (b:=decide ((64:Int)<(n:Int))) xj (fun hb=>?_) (fun hb=>?_)))
 ·exact absurd hb (by rw[show (decide ((64:Int)<(n:Int)))=false from decide_eq_false xq];decide)
 clear hb
 refine zzs (zzp ?_)
 refine sq9 (zxx 13 ⟨79,[.int .u32 1]⟩ 1 (fun af ao aj ai=>?_))
 refine zza 6 (.v (.slice (some ⟨af,0,none⟩) 1 1)) (zzb (zzd (zzt (zyn (I:=fun ac S' u'=>∃ (m:Nat) (i:Nat) (y:Sl),(ac=m)∧(m+i=n)∧(m≤n)∧(S'=St.of 22 [(0,.v (x.v)),(1,zI m),(6,.v (y.v))] [])∧(Ext ao u')∧(NatN u' y (M^i) (i*K+1))) (fun m S u1 u2 e h=>by obtain ⟨m,i,y,hm,p0,p1,hS,hE,f0⟩:=h;exact ⟨m,i,y,hm,p0,p1,hS,hE.trans e,f0.ext e⟩) _ yk ⟨n,0,(⟨some ⟨af,0,none⟩,1,1⟩:Sl),rfl,rfl,xq,rfl,(Ext.refl _),(by rw[Nat.pow_zero];exact NatN.more (one_data ai) xq)⟩ ?_))))
 rintro ac _ u16 ⟨m,i,y,an,hmi,hmn,rfl,ae,f0⟩
 have hsi:i*K≤64*K:=Nat.mul_le_mul_right _ xq
 refine zzd (sq9 (zza 14 (zI m) (zza 15 (zB (decide ((0:Int)<(m:Int)))) (zzb (zzu (b:=decide ((0:Int)<(m:Int))) xj (fun aa=>?_) (fun aa=>?_))))))
 ·have qhb17:=qyt aa
  refine zzs (zzp ?_)
  refine zzd (zzt (zzf (zza 18 (.v (y.v)) (zza 19 (.v (x.v)) (zzg 20 119 _ fun _ _ ab ag=>qym (k_rnMul ag (f0.ext ab).raw (hx.ext (aj.trans (ae.trans ab))) xq xq) ?_)))))
  rintro _ u21 ak ⟨ad,rfl,al⟩
  refine zza 6 (.v (ad.v)) (zzx ?_)
  refine zzp (zzf (zza 16 (zI m) (qwi 17 ((m:Int) - 1) (m - 1:Nat) xz (zza 1 (zI (m - 1:Nat)) (zzx ?_)))))
  have hsm:(i+1)*K=i*K+K:=Nat.succ_mul _ _
  refine ⟨_,?_,_,by exact zzv _ _ _,m - 1,i+1,ad,rfl,xq,xq,rfl,(ae.t (ab.t ak.ext)),(by rw[Nat.pow_succ];exact NatN.more al xq)⟩
  omega
 have qhb17:=qyf aa
 refine zyc (zzp (sq9 (zza 21 (.v (y.v)) (zza 4 (.v (y.v)) (zza 5 (zI 0) (zzb (zzo (ret0 [y.v,.int .i64 0] ⟨zzq,zzq,trivial⟩ fun u24 ah=>?_))))))))
 have am:m=0:=by have h9:=qyf aa;omega
 subst am
 have hin:i=n:=by omega
 subst hin
 exact ⟨y,rfl,(f0.ext ah)⟩
theorem k_rnRoot {u w:World} {x:Sl} {N n K:Nat} (d:Dat u w) (hx:NatV u x N K) (hn1:1≤n) (hn:n≤64) (hK:K≤2000):qyc 96 #[x.v,.int .i64 (n:Int)] w (Post u w fun v u'=>∃y:Sl,v=.tuple #[y.v,.int .i64 0]∧NatN u' y (irt n N) K):=by
 have hB:bitl N≤32*K:=bitl_dl hx.size
 have hdv:=Nat.div_le_self (bitl N) n
 obtain ⟨s,hs⟩:∃s,bitl N / n=s:=⟨_,rfl⟩
 rw[hs] at hdv
 refine zzm Tryz.func96 rfl Tryz.ntmps96 Tryz.results96 d ?_
 refine sq9 (zza 4 (.v (qyn)) (zza 5 (zI 0) (zzb (zzd (sq9 (zza 11 (zI n) (zza 12 (zB (decide ((n:Int)<1))) (zyq 13 (x:=zB (decide ((n:Int)<1))) (zB false) (by rw[show (decide ((n:Int)<1))=false from decide_eq_false xq]) (zza 14 (zI n) ?_ (hw:=w1 2 false 13))))))))))
 refine zza 15 (zB (decide ((64:Int)<(n:Int)))) ?_ (hw:=w1 2 false 13)
 refine zza 16 (zB (decide ((64:Int)<(n:Int)))) (zzb (zzu (b:=decide ((64:Int)<(n:Int))) xj (fun hb=>?_) (fun hb=>?_)))
 ·exact absurd hb (by rw[show (decide ((64:Int)<(n:Int)))=false from decide_eq_false xq];decide)
 clear hb
 refine zzs (zzp ?_)
 refine sq9 (zza 6 (.v (qyn)) (zzb (zzd (sq9 (zza 17 (.v (x.v)) (zzg 18 153 _ fun _ _ ap aE=>qym (k_rnBitLen aE (hx.ext ap) xq) ?_))))))
 rintro _ aB ax rfl
 refine zza 19 (zI n) (sy_quo 20 (n:=((bitl N:Nat):Int)) (m:=(n:Int)) ((s:Nat):Int) xq (by rw[Int.tdiv_eq_ediv_of_nonneg xq,← Int.natCast_ediv,hs];exact IntWalk.i64_in _ xq) ?_)
 refine zza 7 (zI s) (zzb (zzt (zyn (I:=fun aq S' u'=>∃ (k:Nat) (out:Nat) (y:Sl) (z:Int),(aq=k)∧(BitI n N k out)∧(k≤s+1)∧(z=(k:Int) - 1)∧(S'=St.of 42 [(0,.v (x.v)),(1,zI n),(6,.v (y.v)),(7,zI z)] [])∧(Ext aB u')∧(NatN u' y out K)) (fun m S u1 u2 e h=>by obtain ⟨k,out,y,z,hm,p0,p1,p2,hS,hE,f0⟩:=h;exact ⟨k,out,y,z,hm,p0,p1,p2,hS,hE.trans e,f0.ext e⟩) _ yk ⟨(s+1),0,⟨none,0,0⟩,(s:Int),rfl,(hs ▸ BitI.start hn1 (bitl_lt N)),xq,xq,rfl,(Ext.refl _),(nat_nilN _ _)⟩ ?_)))
 rintro aq _ u16 ⟨k,out,y,z,aD,hI,hks,hz,rfl,an,f0⟩
 refine zzd (sq9 (zza 21 (zI z) (zza 22 (zB (decide ((0:Int)≤z))) (zzb (zzu (b:=decide ((0:Int)≤z)) xj (fun ab=>?_) (fun ab=>?_))))))
 ·have qhb17:=qyt ab
  refine zzs (zzp ?_)
  refine zzd (zzt (zzd ?_))
  obtain ⟨j,rfl⟩:∃j:Nat,k=j+1:=⟨k - 1,by have h9:=qyt ab;omega⟩
  obtain rfl:z=(j:Int):=by omega
  have hjs:j / 32≤K:=by omega
  have hnk:n*(max K (1+j / 32+1)+1)≤64*(K+3):=Nat.mul_le_mul hn xq
  refine zzf (zza 25 (.v (y.v)) (zxx 26 ⟨79,[.int .u32 1]⟩ 1 (fun b18 u19 aj aw=>?_)))
  refine zza 27 (zI j) (zzg 28 152 _ fun _ _ ag av=>qym (k_rnShift (s:=j) av ((one_data aw).ext ag).raw xq xq) ?_)
  rintro _ u25 ah ⟨x23,rfl,aF⟩
  refine zzg 29 120 _ fun _ _ af au=>qym (k_rnAdd au (f0.ext (aj.t (ag.t (ah.t af)))).raw (aF.ext af).raw xq xq) ?_
  rintro _ u31 am ⟨ac,rfl,ao⟩
  refine zza 8 (.v (ac.v)) (zzb (sq9 (zza 31 (.v (ac.v)) (zza 32 (zI n) (zzg 33 154 _ fun _ _ ae aC=>qym (k_rnPow (n:=n) aC (ao.ext ae).raw xq xq) ?_)))))
  rintro _ u37 ai ⟨al,rfl,ay⟩
  refine zza 30 (.v (.tuple #[al.v,.int .i64 0])) (zza 34 (.v (al.v)) (zza 35 (zI 0) (zza 9 (.v (al.v)) (zza 10 (zI 0) (zzb (sq9 (zza 36 (.v (al.v)) (zza 37 (.v (x.v)) (zzg 38 121 _ fun _ _ ad aG=>qym (k_rnCompare aG (ay.ext ad).raw (hx.ext (ap.t (ax.t (an.t (aj.t (ag.t (ah.t (af.t (am.t (ae.t (ai.t ad))))))))))) xq xq) ?_)))))))))
  rintro _ u41 ak rfl
  refine zza 39 (zB (decide ((cmpS ((out+(1*2^j))^n) N)≤0))) (zzc 42 [(0,.v (x.v)),(1,zI n),(6,.v (y.v)),(7,zI j),(8,.v (ac.v)),(39,zB (decide ((cmpS ((out+(1*2^j))^n) N)≤0)))] [] (zzu (b:=decide ((cmpS ((out+(1*2^j))^n) N)≤0)) xj (fun aa=>?_) (fun aa=>?_)))
  ·have qhb44:=qyt aa
   refine zzf (zza 40 (.v (ac.v)) (zza 6 (.v (ac.v)) (zzx ?_)))
   refine zzp (zzf (zza 23 (zI j) (zyq 24 (x:=zI (IntKind.i64.wrap ((j:Int) - 1))) (zI ((j:Int) - 1)) yw (zza 7 (zI ((j:Int) - 1)) (zzx ?_)))))
   have hle:(out+2^j)^n≤N:=by have h9:=aa;rw[cmp_le] at h9;have h8:=qyt h9;rw[Int.one_mul] at h8;exact_mod_cast h8
   have hI2:=hI.yes hle
   have hdl:dl (out+2^j)≤K:=Nat.le_trans (dl_mono (Nat.le_trans (Nat.le_self_pow xq _) hle)) hx.size
   refine ⟨_,?_,_,by exact zzv _ _ _,j,(out+2^j),ac,((j:Int) - 1),rfl,hI2,xq,xq,rfl,(an.t (aj.t (ag.t (ah.t (af.t (am.t (ae.t (ai.t (ad.t ak.ext))))))))),(by have h9:=(ao.ext (ae.t (ai.t (ad.t ak.ext))));rw[Nat.one_mul] at h9;exact NatN.fit h9 hdl)⟩
   omega
  have qhb44:=qyf aa
  refine zzs (zzp ?_)
  refine zzf (zza 23 (zI j) (zyq 24 (x:=zI (IntKind.i64.wrap ((j:Int) - 1))) (zI ((j:Int) - 1)) yw (zza 7 (zI ((j:Int) - 1)) (zzx ?_))))
  have hle:¬(out+2^j)^n≤N:=by have h9:=aa;rw[cmp_le] at h9;have h8:=qyf h9;rw[Int.one_mul] at h8;exact_mod_cast h8
  have hI2:=hI.no hle
  refine ⟨_,?_,_,by exact zzv _ _ _,j,out,y,((j:Int) - 1),rfl,hI2,xq,xq,rfl,(an.t (aj.t (ag.t (ah.t (af.t (am.t (ae.t (ai.t (ad.t ak.ext))))))))),(f0.ext (aj.t (ag.t (ah.t (af.t (am.t (ae.t (ai.t (ad.t ak.ext)))))))))⟩
  omega
 have qhb17:=qyf ab
 refine zyc (zzp (sq9 (zza 41 (.v (y.v)) (zza 4 (.v (y.v)) (zza 5 (zI 0) (zzb (zzo (ret0 [y.v,.int .i64 0] ⟨zzq,zzq,trivial⟩ fun u45 aA=>?_))))))))
 have ar:k=0:=by have h9:=qyf ab;omega
 subst ar
 have hd:=hI.done hn1
 subst hd
 exact ⟨y,rfl,(f0.ext aA)⟩
theorem k_r10RootG {u w:World} {r:RL} {q:Rat} {K n k:Nat} (d:Dat u w) (hr:RatV u r q K) (hq0:0≤q) (hn1:1≤n) (hn:n≤64) (hk:k≤256) (hK:K≤100):qyc 37 #[r.v,.int .i64 (n:Int),.int .i64 (k:Int)] w (Post u w fun v u'=>∃r1 r2:RL,v=.tuple #[IV r1 r2,.int .i64 0]∧RatN u' r1 (Nt.gr k (rtN q n k:Int)) 5000∧RatN u' r2 (Nt.gr k (rtH q n k)) 5000):=by
 have hnk:n*(k / 32+2+2)≤64*12:=Nat.mul_le_mul hn xq
 have a9:n*2000≤64*2000:=Nat.mul_le_mul_right _ hn
 refine zzm Tryz.func37 rfl Tryz.ntmps37 Tryz.results37 d ?_
 refine sq9 (zzk 3 ⟨28,r.cs⟩ (zzk 6 ⟨57,zw6⟩ (zza 7 (zI 0) (zzb (zzd (sq9 (zzi 18 (.v (r.v)) ty28 zze (zzg 19 38 _ fun _ _ aQ aY=>qym (k_rqSign aY (hr.ext aQ) xq) ?_))))))))
 rintro _ u12 bc rfl
 refine zza 20 (zB (decide ((sgQ q)<0))) (zyq 21 (x:=zB (decide ((sgQ q)<0))) (zB false) (by rw[show (decide ((sgQ q)<0))=false from decide_eq_false (sgQ_nn hq0)]) (zza 22 (zI k) ?_ (hw:=w1 3 false 21)))
 refine zzg 23 94 _ (fun _ _ a4 bj=>qym (k_r10bad (n:=(k:Int)) bj) ?_) (hw:=w1 3 false 21)
 rintro _ u17 bu rfl
 refine zza 24 (zB (decide ((k:Int)<0∨256<(k:Int)))) (zyq 25 (x:=zB (decide ((k:Int)<0∨256<(k:Int)))) (zB false) (by rw[show (decide ((k:Int)<0∨256<(k:Int)))=false from decide_eq_false xq]) (zza 26 (zI n) ?_ (hw:=w1 7 false 25)))
 refine zza 27 (zB (decide ((n:Int)<1))) ?_ (hw:=w1 7 false 25)
 refine zza 28 (zB (decide ((n:Int)<1))) (zyq 29 (x:=zB (decide ((n:Int)<1))) (zB false) (by rw[show (decide ((n:Int)<1))=false from decide_eq_false xq]) (zza 30 (zI n) ?_ (hw:=w1 11 false 29)))
 refine zza 31 (zB (decide ((64:Int)<(n:Int)))) ?_ (hw:=w1 11 false 29)
 refine zza 32 (zB (decide ((64:Int)<(n:Int)))) (zzb (zzu (b:=decide ((64:Int)<(n:Int))) xj (fun hb=>?_) (fun hb=>?_)))
 ·exact absurd hb (by rw[show (decide ((64:Int)<(n:Int)))=false from decide_eq_false xq];decide)
 clear hb
 refine zzs (zzp ?_)
 refine sq9 (zza 34 (zI k) (zzg 35 95 _ fun _ _ a5 bn=>qym (k_unit (k:=k) bn xq) ?_))
 rintro _ u25 a7 ⟨ak,rfl,aD⟩
 refine zzk 8 ⟨28,zw3⟩ (zzj ⟨28,ak.cs⟩ ty28 ?_)
 refine zzb (sq9 (zzi 37 (.v (ak.v)) ty28 zze (zza 38 (zI n) (zzg 39 16 _ fun _ _ aw bl=>qym (k_rqPow (n:=n) bl (aD.ext aw).raw xq xq) ?_))))
 rintro _ u31 aA ⟨ay,rfl,bk⟩
 refine zza 36 (.v (.tuple #[ay.v,.int .i64 0])) (zza 40 (.v (ay.v)) (zza 41 (zI 0) (zzk 9 ⟨28,zw3⟩ (zzj ⟨28,ay.cs⟩ ty28 ?_))))
 refine zza 10 (zI 0) (zzc 78 [(1,zI n),(3,.adr 3 0),(6,.adr 6 0),(8,.adr 8 0),(9,.adr 9 0)] [(3,⟨28,r.cs⟩),(6,⟨57,zw6⟩),(8,⟨28,ak.cs⟩),(9,⟨28,ay.cs⟩)] (sq9 (zzi 42 (.v (r.v)) ty28 zze (zzi 43 (.v (ay.v)) ty28 zze (zzg 44 15 _ fun _ _ au bf=>qym (k_rqMul bf (hr.ext (aQ.t (bc.t (a4.t (bu.t (a5.t (a7.t (aw.t (aA.t au))))))))) (bk.ext au).raw xq xq) ?_)))))
 rintro _ u37 aJ ⟨aL,rfl,aS⟩
 refine zzk 11 ⟨28,zw3⟩ (zzj ⟨28,aL.cs⟩ ty28 ?_)
 refine zzb (sq9 (zzi 46 (.v (aL.v)) ty28 zze (zzg 47 97 _ fun _ _ ar bv=>qym (k_floor bv (aS.ext ar).raw xq) ?_)))
 rintro _ u43 aE ⟨a2,rfl,a8⟩
 refine zza 48 (.v (a2.m.v)) (zza 49 (zI n) (zzg 50 96 _ fun _ _ av bb=>qym (k_rnRoot (n:=n) bb ((int_mag a8).ext av).raw xq xq xq) ?_))
 rintro _ u49 aB ⟨ab,rfl,ax⟩
 refine zza 45 (.v (.tuple #[ab.v,.int .i64 0])) (zza 51 (.v (ab.v)) (zza 52 (zI 0) (zza 12 (.v (ab.v)) (zza 13 (zI 0) (zzb (sq9 (zza 53 (.v (ab.v)) (zza 54 (.v (.agg #[.bool false,ab.v])) (zxx 55 ⟨79,[.int .u32 1]⟩ 1 (fun ah u53 ai aG=>?_))))))))))
 refine zza 56 (.v (.agg #[.bool false,ab.v,.slice (some ⟨ah,0,none⟩) 1 1])) (zzk 14 ⟨28,zw3⟩ (zzj ⟨28,[.bool false,ab.v,.slice (some ⟨ah,0,none⟩) 1 1]⟩ ty28 ?_))
 refine zzb (sq9 (zzi 57 (.v (.agg #[.bool false,ab.v,.slice (some ⟨ah,0,none⟩) 1 1])) ty28 zze (zzk 15 ⟨28,zw3⟩ (zzj ⟨28,[.bool false,ab.v,.slice (some ⟨ah,0,none⟩) 1 1]⟩ ty28 ?_))))
 refine zzb (zzd (zzd ?_))
 have be:n*((max (max ((K+(n*((k / 32+2)+2)+2)+1)+1) 1) 1)+2)≤64*2000:=Nat.mul_le_mul hn xq
 refine zzf (zzi 59 (.v (.agg #[.bool false,ab.v,.slice (some ⟨ah,0,none⟩) 1 1])) ty28 zze (zza 60 (zI n) (zzg 61 16 _ fun _ _ ac bo=>qym (k_rqPow (n:=n) bo (rat_mk2 (s:=false) (nat_int (ax.ext (ai.trans ac)).raw) ((one_data aG).ext ac).raw) xq xq) ?_)))
 rintro _ u59 ae ⟨aC,rfl,aX⟩
 refine zza 58 (.v (.tuple #[aC.v,.int .i64 0])) (zza 62 (.v (aC.v)) (zza 63 (zI 0) (zzk 16 ⟨28,zw3⟩ (zzj ⟨28,aC.cs⟩ ty28 ?_))))
 refine zza 17 (zI 0) (zzc 78 [(6,.adr 6 0),(8,.adr 8 0),(11,.adr 11 0),(14,.adr 14 0),(15,.adr 15 0),(16,.adr 16 0)] [(6,⟨57,zw6⟩),(8,⟨28,ak.cs⟩),(11,⟨28,aL.cs⟩),(14,⟨28,[.bool false,ab.v,.slice (some ⟨ah,0,none⟩) 1 1]⟩),(15,⟨28,[.bool false,ab.v,.slice (some ⟨ah,0,none⟩) 1 1]⟩),(16,⟨28,aC.cs⟩)] (sq9 (zzi 64 (.v (aC.v)) ty28 zze (zzi 65 (.v (aL.v)) ty28 zze (zzg 66 13 _ fun _ _ ad aW=>qym (k_rqCompare aW (aX.ext ad).raw (aS.ext (ar.t (aE.t (av.t (aB.t (ai.t (ac.t (ae.t ad)))))))).raw xq xq) ?_)))))
 rintro _ u63 af rfl
 refine zza 67 (zB (decide ((cmpQ ((mkRat ((irt n ((flr (q*((((2^k:Nat):Int):Rat)^n))).natAbs)):Int) 1)^n) (q*((((2^k:Nat):Int):Rat)^n)))<0))) (zzb (zzu (b:=decide ((cmpQ ((mkRat ((irt n ((flr (q*((((2^k:Nat):Int):Rat)^n))).natAbs)):Int) 1)^n) (q*((((2^k:Nat):Int):Rat)^n)))<0)) xj (fun ag=>?_) (fun ag=>?_)))
 ·have qhb66:=qyt ag
  refine zzz [0,0,3,7] [(0,[]),(1,[]),(2,[]),(3,[])] xj xj (zzi 68 (.v (.agg #[.bool false,ab.v,.slice (some ⟨ah,0,none⟩) 1 1])) ty28 zze (zzg 69 11 _ fun _ _ ap a0=>qym (k_rqOf a0 (z:=1) xq xq) ?_))
  rintro _ u70 aq ⟨r68,rfl,ba⟩
  refine zzg 70 17 _ fun _ _ an br=>qym (k_rqAdd br (rat_mk2 (s:=false) (nat_int (ax.ext (ai.t (ac.t (ae.t (ad.t (af.t (ap.t (aq.t an)))))))).raw) ((one_data aG).ext (ac.t (ae.t (ad.t (af.t (ap.t (aq.t an))))))).raw) (ba.ext an).raw xq xq) ?_
  rintro _ u76 aI ⟨aR,rfl,bq⟩
  refine zzj ⟨28,aR.cs⟩ ty28 ?_
  refine zzb (zzd (zzz [0,0,3,0,0,31,63,127,255] [(0,[]),(1,[]),(3,[]),(4,[]),(2,[]),(5,[]),(6,[]),(7,[]),(8,[])] xj xj (zzi 71 (.v (.agg #[.bool false,ab.v,.slice (some ⟨ah,0,none⟩) 1 1])) ty28 zze (zzi 72 (.v (ak.v)) ty28 zze (zzi 74 (.v (aR.v)) ty28 zze (zzi 75 (.v (ak.v)) ty28 zze (zzg 73 98 _ fun _ _ aH a3=>qym (k_rqOver a3 (rat_mk2 (s:=false) (nat_int (ax.ext (ai.t (ac.t (ae.t (ad.t (af.t (ap.t (aq.t (an.t (aI.t aH)))))))))).raw) ((one_data aG).ext (ac.t (ae.t (ad.t (af.t (ap.t (aq.t (an.t (aI.t aH))))))))).raw) (aD.ext (aw.t (aA.t (au.t (aJ.t (ar.t (aE.t (av.t (aB.t (ai.t (ac.t (ae.t (ad.t (af.t (ap.t (aq.t (an.t (aI.t aH)))))))))))))))))).raw xq xq) ?_)))))))
  rintro _ u82 aU ⟨am,rfl,a1⟩
  refine zzg 76 98 _ fun _ _ aN bg=>qym (k_rqOver bg (bq.ext (aH.t (aU.t aN))).raw (aD.ext (aw.t (aA.t (au.t (aJ.t (ar.t (aE.t (av.t (aB.t (ai.t (ac.t (ae.t (ad.t (af.t (ap.t (aq.t (an.t (aI.t (aH.t (aU.t aN)))))))))))))))))))).raw xq xq) ?_
  rintro _ u88 bs ⟨al,rfl,aZ⟩
  refine zza 77 (.v (.agg #[.bool am.s,am.m.v,am.d.v,.bool al.s,al.m.v,al.d.v])) (zzj ⟨57,am.cs++al.cs⟩ ty57 ?_)
  refine zza 7 (zI 0) (zzb (zzo (ret0 [.agg #[.bool am.s,am.m.v,am.d.v,.bool al.s,al.m.v,al.d.v],.int .i64 0] ⟨zzr ty57 zze,zzq,trivial⟩ fun u91 aT=>?_)))
  have hx9:=rt_cmp (k:=k) hq0 hn1
  have hH:rtH q n k=(rtN q n k:Int)+1:=if_neg (hx9.1 (by have h9:=ag;rw[flr_rtD hq0] at h9;exact h9))
  refine ⟨am,al,rfl,RatN.more (K:=((max (max ((K+(n*((k / 32+2)+2)+2)+1)+1) 1) 1)+(k / 32+2)+2)) ?_ xq,RatN.more (K:=(((max (max ((K+(n*((k / 32+2)+2)+2)+1)+1) 1) 1)+2+2)+(k / 32+2)+2)) ?_ xq⟩
  ·have h9:=(a1.ext (aN.t (bs.t aT)))
   rw[flr_rtD hq0,rt_lo] at h9
   exact h9
  have h9:=(aZ.ext aT)
  rw[flr_rtD hq0,rt_hi] at h9
  rw[hH]
  exact h9
 have qhb66:=qyf ag
 refine zzs (zzp ?_)
 refine zzd (zzz [0,0,3,0,0,31,63,127,255] [(0,[]),(1,[]),(3,[]),(4,[]),(2,[]),(5,[]),(6,[]),(7,[]),(8,[])] xj xj (zzi 71 (.v (.agg #[.bool false,ab.v,.slice (some ⟨ah,0,none⟩) 1 1])) ty28 zze (zzi 72 (.v (ak.v)) ty28 zze (zzi 74 (.v (.agg #[.bool false,ab.v,.slice (some ⟨ah,0,none⟩) 1 1])) ty28 zze (zzi 75 (.v (ak.v)) ty28 zze (zzg 73 98 _ fun _ _ ao aV=>qym (k_rqOver aV (rat_mk2 (s:=false) (nat_int (ax.ext (ai.t (ac.t (ae.t (ad.t (af.t ao)))))).raw) ((one_data aG).ext (ac.t (ae.t (ad.t (af.t ao))))).raw) (aD.ext (aw.t (aA.t (au.t (aJ.t (ar.t (aE.t (av.t (aB.t (ai.t (ac.t (ae.t (ad.t (af.t ao)))))))))))))).raw xq xq) ?_))))))
 rintro _ u96 aM ⟨aj,rfl,bt⟩
 refine zzg 76 98 _ fun _ _ aK bh=>qym (k_rqOver bh (rat_mk2 (s:=false) (nat_int (ax.ext (ai.t (ac.t (ae.t (ad.t (af.t (ao.t (aM.t aK)))))))).raw) ((one_data aG).ext (ac.t (ae.t (ad.t (af.t (ao.t (aM.t aK))))))).raw) (aD.ext (aw.t (aA.t (au.t (aJ.t (ar.t (aE.t (av.t (aB.t (ai.t (ac.t (ae.t (ad.t (af.t (ao.t (aM.t aK)))))))))))))))).raw xq xq) ?_
 rintro _ a6 aP ⟨aa,rfl,aO⟩
 refine zza 77 (.v (.agg #[.bool aj.s,aj.m.v,aj.d.v,.bool aa.s,aa.m.v,aa.d.v])) (zzj ⟨57,aj.cs++aa.cs⟩ ty57 ?_)
 refine zza 7 (zI 0) (zzb (zzo (ret0 [.agg #[.bool aj.s,aj.m.v,aj.d.v,.bool aa.s,aa.m.v,aa.d.v],.int .i64 0] ⟨zzr ty57 zze,zzq,trivial⟩ fun bi aF=>?_)))
 have hx9:=rt_cmp (k:=k) hq0 hn1
 have hH:rtH q n k=(rtN q n k:Int):=if_pos (Decidable.not_not.1 (fun h8=>by have h7:=hx9.2 h8;have h9:=ag;rw[flr_rtD hq0] at h9;rw[show irt n (rtD q n k)=rtN q n k from rfl,h7] at h9;exact absurd h9 yq))
 refine ⟨aj,aa,rfl,RatN.more (K:=((max (max ((K+(n*((k / 32+2)+2)+2)+1)+1) 1) 1)+(k / 32+2)+2)) ?_ xq,RatN.more (K:=((max (max ((K+(n*((k / 32+2)+2)+2)+1)+1) 1) 1)+(k / 32+2)+2)) ?_ xq⟩
 ·have h9:=(bt.ext (aK.t (aP.t aF)))
  rw[flr_rtD hq0,rt_lo] at h9
  exact h9
 have h9:=(aO.ext aF)
 rw[flr_rtD hq0,rt_lo] at h9
 rw[hH]
 exact h9
theorem Nt.cs_x {k:Nat} {a b:Int} {F:Rat} (h:a≤b) (hF:0≤F):lo4 (Nt.gr k a*Nt.lo F F) (Nt.gr k a*Nt.hi F F) (Nt.gr k b*Nt.lo F F) (Nt.gr k b*Nt.hi F F)=Nt.gr k a*F∧hi4 (Nt.gr k a*Nt.lo F F) (Nt.gr k a*Nt.hi F F) (Nt.gr k b*Nt.lo F F) (Nt.gr k b*Nt.hi F F)=Nt.gr k b*F:=by
 rw[lo_self,hi_self]
 exact lo4_pt (gr_mono h) hF
theorem Nt.fr_nn {s q:Nat} (h:0<q):(0:Rat)≤(((s:Int):Rat) / ((q:Int):Rat)):=div_nn (Rat.intCast_le_intCast.2 (show (0:Int)≤(s:Int) by omega)) (castI_pos (show (0:Int)<(q:Int) by omega))
theorem k_r10CosPiG {u w:World} {p:Int} {q k:Nat} (d:Dat u w) (hq1:1≤q) (hq2:q≤1000) (hp0 : -1000000≤p) (hp1:p≤1000000) (hk:k≤256) (hG0:GapQ q k):qyc 40 #[.int .i64 p,.int .i64 (q:Int),.int .i64 (k:Int)] w (Post u w fun v u'=>∃r1 r2:RL,v=.tuple #[IV r1 r2,.int .i64 0]∧RatN u' r1 ((cosV p q k).1) 200∧RatN u' r2 ((cosV p q k).2) 200):=by
 have aE:0<q:=by omega
 have htm:=tmod_bd p aE
 obtain ⟨g,hg3,hG⟩:=id hG0
 refine zzm Tryz.func40 rfl Tryz.ntmps40 Tryz.results40 d ?_
 refine sq9 (zzk 6 ⟨57,zw6⟩ (zza 7 (zI 0) (zzb (zzd (sq9 (zza 13 (zI k) (zzg 14 94 _ fun _ _ _ dA=>qym (k_r10bad (n:=(k:Int)) dA) ?_)))))))
 rintro _ u12 g13 rfl
 refine zyq 15 (x:=zB (decide ((k:Int)<0∨256<(k:Int)))) (zB false) (by rw[show (decide ((k:Int)<0∨256<(k:Int)))=false from decide_eq_false xq]) (zza 16 (zI q) ?_ (hw:=w1 2 false 15))
 refine zza 17 (zB (decide ((q:Int)<1))) ?_ (hw:=w1 2 false 15)
 refine zza 18 (zB (decide ((q:Int)<1))) (zyq 19 (x:=zB (decide ((q:Int)<1))) (zB false) (by rw[show (decide ((q:Int)<1))=false from decide_eq_false xq]) (zza 20 (zI q) ?_ (hw:=w1 6 false 19)))
 refine zza 21 (zB (decide ((1000:Int)<(q:Int)))) ?_ (hw:=w1 6 false 19)
 refine zza 22 (zB (decide ((1000:Int)<(q:Int)))) (zyq 23 (x:=zB (decide ((1000:Int)<(q:Int)))) (zB false) (by rw[show (decide ((1000:Int)<(q:Int)))=false from decide_eq_false xq]) (zza 24 (zI p) ?_ (hw:=w1 10 false 23)))
 refine zza 25 (zB (decide (p<(-1000000)))) ?_ (hw:=w1 10 false 23)
 refine zza 26 (zB (decide (p<(-1000000)))) (zyq 27 (x:=zB (decide (p<(-1000000)))) (zB false) (by rw[show (decide (p<(-1000000)))=false from decide_eq_false xq]) (zza 28 (zI p) ?_ (hw:=w1 14 false 27)))
 refine zza 29 (zB (decide ((1000000:Int)<p))) ?_ (hw:=w1 14 false 27)
 refine zza 30 (zB (decide ((1000000:Int)<p))) (zzb (zzu (b:=decide ((1000000:Int)<p)) xj (fun hb=>?_) (fun hb=>?_)))
 ·exact absurd hb (by rw[show (decide ((1000000:Int)<p))=false from decide_eq_false xq];decide)
 clear hb
 refine zzs (zzp ?_)
 refine sq9 (zza 32 (zI p) (zza 33 (zI q) (qwi 34 ((2:Int)*(q:Int)) (2*q:Nat) xz (sy_rem 35 (m:=((2*q:Nat):Int)) (Int.tmod p (2*(q:Int))) xq (by rw[Int.natCast_mul];rfl) ?_))))
 refine zza 0 (zI (Int.tmod p (2*(q:Int)))) (zzb (zzd (sq9 (zza 36 (zI (Int.tmod p (2*(q:Int)))) (zza 37 (zB (decide ((Int.tmod p (2*(q:Int)))<0))) (zzb (zzu (b:=decide ((Int.tmod p (2*(q:Int)))<0)) xj (fun bg=>?_) (fun bg=>?_))))))))
 ·have qhb19:=qyt bg
  refine zzf (zza 38 (zI (Int.tmod p (2*(q:Int)))) (zza 39 (zI q) (qwi 40 ((2:Int)*(q:Int)) (2*q:Nat) xz (zyq 41 (x:=zI (IntKind.i64.wrap ((Int.tmod p (2*(q:Int)))+((2*q:Nat):Int)))) (zI ((Int.tmod p (2*(q:Int)))+((2*q:Nat):Int))) yw (zza 0 (zI ((Int.tmod p (2*(q:Int)))+((2*q:Nat):Int))) (zzc 113 [(0,zI ((Int.tmod p (2*(q:Int)))+((2*q:Nat):Int))),(1,zI q),(2,zI k),(6,.adr 6 0)] [(6,⟨57,zw6⟩)] (zzd (sw_joinP (I:=fun S' u'=>∃ (r:Nat),(fold p q=r)∧(r≤q)∧(S'=St.of 113 [(0,zI r),(1,zI q),(2,zI k),(6,.adr 6 0)] [(6,⟨57,zw6⟩)])) ?_ (fun aT=>?_)))))))))
  ·rintro _ ea dS ⟨r,hr,hfl,rfl⟩
   refine sq9 (zza 49 (zI r) (qwi 50 ((2:Int)*(r:Int)) (2*r:Nat) xz (zza 51 (zI q) (zza 52 (zB (decide ((q:Int)<((2*r:Nat):Int)))) (zza 8 (zB (decide ((q:Int)<((2*r:Nat):Int)))) (zzb (zzd (sw_joinP (I:=fun S' u'=>∃ (s:Nat) (ng:Bool),((ng=true∧q<2*r∧s=q - r)∨(ng=false∧¬q<2*r∧s=r))∧(2*s≤q)∧(S'=St.of 113 [(0,zI s),(1,zI q),(2,zI k),(6,.adr 6 0),(8,zB ng)] [(6,⟨57,zw6⟩)])) ?_ (fun aO=>?_)))))))))
   ·rintro _ ey eH ⟨s,ng,hs,hsq,rfl⟩
    refine sq9 (zza 57 (.v (.agg #[.bool false,qyn,qyn,.bool false,qyn,qyn])) (zzk 9 ⟨57,zw6⟩ (zzj ⟨57,zw6⟩ ty57 ?_)))
    refine zzb (zzd (sw_joinP (I:=fun S' u'=>∃ (x1:RL) (x2:RL),(S'=St.of 113 [(6,.adr 6 0),(8,zB ng),(9,.adr 9 0)] [(6,⟨57,zw6⟩),(9,⟨57,x1.cs++x2.cs⟩)])∧(RatN u' x1 (cosA s q k).1 200)∧(RatN u' x2 (cosA s q k).2 200)) ?_ (fun ar=>?_)))
    ·rintro _ dt eI ⟨x1,x2,rfl,bL,bl⟩
     refine zzd (sq9 (zza 104 (zB ng) (zzb (zzu (b:=ng) xj (fun ax=>?_) (fun ax=>?_)))))
     ·replace ax:ng=true:=ax
      refine zzz [0,1,3,0,8,31,63,127] [(0,[]),(1,[]),(3,[]),(4,[]),(2,[]),(5,[]),(6,[]),(7,[])] xj xj (zza 105 (.adr 9 3) (zzi 106 (.v (x2.v)) ty28 zze (zza 108 (.adr 9 0) (zzi 109 (.v (x1.v)) ty28 zze (zzg 107 59 _ fun _ _ c0 d9=>qym (k_rqNeg d9 (bl.ext c0).raw xq) ?_)))))
      rintro _ u27 eD ⟨aI,rfl,eB⟩
      refine zzg 110 59 _ fun _ _ dm ej=>qym (k_rqNeg ej (bL.ext (c0.t (eD.t dm))).raw xq) ?_
      rintro _ u33 eG ⟨aJ,rfl,dH⟩
      refine zza 111 (.v (.agg #[.bool aI.s,aI.m.v,aI.d.v,.bool aJ.s,aJ.m.v,aJ.d.v])) (zzj ⟨57,aI.cs++aJ.cs⟩ ty57 ?_)
      refine zzb (sq9 (zzi 112 (.v (.agg #[.bool aI.s,aI.m.v,aI.d.v,.bool aJ.s,aJ.m.v,aJ.d.v])) ty57 zze (zzj ⟨57,aI.cs++aJ.cs⟩ ty57 ?_)))
      refine zza 7 (zI 0) (zzb (zzo (ret0 [.agg #[.bool aI.s,aI.m.v,aI.d.v,.bool aJ.s,aJ.m.v,aJ.d.v],.int .i64 0] ⟨zzr ty57 zze,zzq,trivial⟩ fun u36 c6=>?_)))
      have hs9:=hs.resolve_right (fun h=>by rw[ax] at h;exact absurd h.1 yq)
      have hc:=cosV_hi (b:=k) hr hs9.2.1
      rw[← hs9.2.2] at hc
      refine ⟨aI,aJ,rfl,RatN.more (K:=200) ?_ xq,RatN.more (K:=200) ?_ xq⟩
      ·rw[hc];exact (eB.ext (dm.t (eG.t c6)))
      rw[hc];exact (dH.ext c6)
     replace ax:ng=false:=ax
     refine zzs (zzp ?_)
     refine sq9 (zzi 112 (.v (.agg #[.bool x1.s,x1.m.v,x1.d.v,.bool x2.s,x2.m.v,x2.d.v])) ty57 zze (zzj ⟨57,x1.cs++x2.cs⟩ ty57 ?_))
     refine zza 7 (zI 0) (zzb (zzo (ret0 [.agg #[.bool x1.s,x1.m.v,x1.d.v,.bool x2.s,x2.m.v,x2.d.v],.int .i64 0] ⟨zzr ty57 zze,zzq,trivial⟩ fun u38 da=>?_)))
     have hs9:=hs.resolve_left (fun h=>by rw[ax] at h;exact absurd h.1 yq)
     have hc:=cosV_lo (b:=k) hr hs9.2.1
     rw[← hs9.2.2] at hc
     refine ⟨x1,x2,rfl,RatN.more (K:=200) ?_ xq,RatN.more (K:=200) ?_ xq⟩
     ·rw[hc];exact (bL.ext da)
     rw[hc];exact (bl.ext da)
    refine zzt (sq9 (zza 83 (zI s) (zza 84 (zB ((s:Int)==0)) (zza 82 (zB ((s:Int)==0)) (zzb (zzu (b:=(s:Int)==0) xj (fun aK=>?_) (fun aK=>?_)))))))
    ·have bo:(s:Int)=0:=by simpa using aK
     have ap:s=0:=by have h9:=aK;simp at h9;omega
     refine zzf (zzg 85 11 _ fun _ _ dP et=>qym (k_rqOf et (z:=1) xq xq) ?_)
     rintro _ u44 ep ⟨r42,rfl,dW⟩
     refine zza 86 (zI k) (zzg 87 99 _ fun _ _ de en=>qym (k_r10point (k:=k) en (dW.ext de) xq xq) ?_)
     rintro _ u52 d5 ⟨bX,bR,rfl,eu,d3⟩
     refine zzj ⟨57,bX.cs++bR.cs⟩ ty57 ?_
     refine zzx ?_
     refine zzp ?_
     have hcA:=cosA_0 (r:=s) (q:=q) (b:=k) ap
     refine sw_weak (T:=St.of 113 [(6,.adr 6 0),(8,zB ng),(9,.adr 9 0)] [(6,⟨57,zw6⟩),(9,⟨57,bX.cs++bR.cs⟩)]) yk ?_
     exact ar _ _ (dP.t (ep.t (de.t d5.ext))) ⟨bX,bR,rfl,(by rw[hcA];exact RatN.more eu xq),(by rw[hcA];exact RatN.more d3 xq)⟩
    have bo:¬((s:Int)=0):=by simpa using aK
    have ap:¬s=0:=by have h9:=aK;simp at h9;omega
    refine sq9 (zza 89 (zI s) (qwi 90 ((2:Int)*(s:Int)) (2*s:Nat) xz (zza 91 (zI q) (zza 92 (zB (((2*s:Nat):Int)==(q:Int))) (zza 88 (zB (((2*s:Nat):Int)==(q:Int))) (zzb (zzu (b:=((2*s:Nat):Int)==(q:Int)) xj (fun bi=>?_) (fun bi=>?_))))))))
    ·have au:2*s=q:=by have h9:=bi;simp at h9;omega
     refine zzf (zzg 93 11 _ fun _ _ d6 ew=>qym (k_rqOf ew (z:=0) xq xq) ?_)
     rintro _ u59 ex ⟨r57,rfl,dy⟩
     refine zza 94 (zI k) (zzg 95 99 _ fun _ _ c9 dx=>qym (k_r10point (k:=k) dx (dy.ext c9) xq xq) ?_)
     rintro _ u67 d1 ⟨bT,cF,rfl,eF,ed⟩
     refine zzj ⟨57,bT.cs++cF.cs⟩ ty57 ?_
     refine zzx ?_
     refine zzp ?_
     have hcA:=cosA_h (r:=s) (q:=q) (b:=k) ap au
     refine sw_weak (T:=St.of 113 [(6,.adr 6 0),(8,zB ng),(9,.adr 9 0)] [(6,⟨57,zw6⟩),(9,⟨57,bT.cs++cF.cs⟩)]) yk ?_
     exact ar _ _ (d6.t (ex.t (c9.t d1.ext))) ⟨bT,cF,rfl,(by rw[hcA];exact RatN.more eF xq),(by rw[hcA];exact RatN.more ed xq)⟩
    have au:¬2*s=q:=by have h9:=bi;simp at h9;omega
    refine sq9 (zza 97 (zI s) (qwi 98 ((3:Int)*(s:Int)) (3*s:Nat) xz (zza 99 (zI q) (zza 100 (zB (((3*s:Nat):Int)==(q:Int))) (zza 96 (zB (((3*s:Nat):Int)==(q:Int))) (zzb (zzu (b:=((3*s:Nat):Int)==(q:Int)) xj (fun a5=>?_) (fun a5=>?_))))))))
    ·have ay:3*s=q:=by have h9:=a5;simp at h9;omega
     refine zzf (zzg 101 5 _ fun _ _ eA dY=>qym (k_rqFrac dY (a:=1) (b:=2) xq xq xq xq) ?_)
     rintro _ u74 eg ⟨r72,rfl,dQ⟩
     refine zza 102 (zI k) (zzg 103 99 _ fun _ _ c5 dZ=>qym (k_r10point (k:=k) dZ (dQ.ext c5) xq xq) ?_)
     rintro _ u82 ec ⟨cq,cX,rfl,dI,dV⟩
     refine zzj ⟨57,cq.cs++cX.cs⟩ ty57 ?_
     refine zzx ?_
     refine zzp ?_
     have hcA:=cosA_3 (r:=s) (q:=q) (b:=k) ap au ay
     refine sw_weak (T:=St.of 113 [(6,.adr 6 0),(8,zB ng),(9,.adr 9 0)] [(6,⟨57,zw6⟩),(9,⟨57,cq.cs++cX.cs⟩)]) yk ?_
     exact ar _ _ (eA.t (eg.t (c5.t ec.ext))) ⟨cq,cX,rfl,(by rw[hcA];exact RatN.more dI xq),(by rw[hcA];exact RatN.more dV xq)⟩
    have ay:¬3*s=q:=by have h9:=a5;simp at h9;omega
    refine sq9 (zza 10 (zB false) (zzb (sq9 (zza 58 (zI s) (zza 59 (zI q) (zzg 60 5 _ fun _ _ dN ei=>qym (k_rqFrac ei (a:=(s:Int)) (b:=(q:Int)) xq xq xq xq) ?_))))))
    rintro _ u88 eC ⟨r86,rfl,dG⟩
    refine zza 61 (zI s) (zza 62 (zI q) (zzg 63 5 _ fun _ _ dn eb=>qym (k_rqFrac eb (a:=(s:Int)) (b:=(q:Int)) xq xq xq xq) ?_))
    rintro _ u94 dh ⟨r92,rfl,dC⟩
    refine zzg 64 100 _ fun _ _ b5 dX=>qym (k_r4Make dX (dG.ext (dn.t (dh.t b5))).raw (dC.ext b5).raw xq) ?_
    rintro _ ch cH ⟨bj,aH,rfl,dJ,b4⟩
    refine zzk 11 ⟨57,zw6⟩ (zzj ⟨57,bj.cs++aH.cs⟩ ty57 ?_)
    refine zzb (sq9 (zza 65 (zI k) (qwi 66 ((k:Int)+16) (k+16:Nat) xz (zza 12 (zI (k+16:Nat)) (zzb (zzt (zyn (I:=fun bx S' u'=>∃ (t:Nat) (wk:Nat) (ok:Bool) (x1:RL) (x2:RL),(bx=t)∧(k+16≤wk)∧(wk≤1400)∧(ok=true∨(t=2001 - wk∧(wk≤674∨wk=k+16)))∧(S'=St.of 113 [(2,zI k),(6,.adr 6 0),(8,zB ng),(9,.adr 9 0),(10,zB ok),(11,.adr 11 0),(12,zI wk)] [(6,⟨57,zw6⟩),(9,⟨57,x1.cs++x2.cs⟩),(11,⟨57,bj.cs++aH.cs⟩)])∧(Ext ch u')∧(IfI u' ok x1 x2 (Nt.gr k (Nt.flo (coN s q) k)) (Nt.gr k (Nt.flo (coN s q) k+1)))) (fun m S u1 u2 e h=>by obtain ⟨t,wk,ok,x1,x2,hm,p0,p1,p2,hS,hE,f0⟩:=h;exact ⟨t,wk,ok,x1,x2,hm,p0,p1,p2,hS,hE.trans e,f0.ext e⟩) _ yk ⟨(2001 - (k+16)),(k+16),false,(⟨false,⟨none,0,0⟩,⟨none,0,0⟩⟩:RL),(⟨false,⟨none,0,0⟩,⟨none,0,0⟩⟩:RL),rfl,by omega,by omega,.inr ⟨rfl,.inr rfl⟩,rfl,(Ext.refl _),(fun h=>absurd h yq)⟩ ?_)))))))
    rintro bx _ el ⟨t,wk,ok,x1,x2,di,ez,dM,b3,rfl,aX,f0⟩
    refine zzd (sq9 (zza 67 (zB ok) (zza 68 (zB (!ok)) (zzc 113 [(2,zI k),(6,.adr 6 0),(8,zB ng),(9,.adr 9 0),(11,.adr 11 0),(12,zI wk),(68,zB (!ok))] [(6,⟨57,zw6⟩),(9,⟨57,x1.cs++x2.cs⟩),(11,⟨57,bj.cs++aH.cs⟩)] (zzu (b := !ok) xj (fun aC=>?_) (fun aC=>?_))))))
    ·have hok:=not_t aC
     have dR:t=2001 - wk∧(wk≤674∨wk=k+16):=b3.resolve_left (by rw[hok];decide)
     have hg:=hG s xq xq xq
     refine zzs (zzp ?_)
     refine zzd (zzt (zzz [0,1,0,7,0,31,0,127,255,511,511,1023,4095] [(0,[]),(2,[]),(4,[]),(6,[]),(1,[]),(3,[]),(5,[]),(7,[]),(8,[]),(9,[]),(10,[]),(11,[]),(12,[])] xj xj (zza 72 (zI wk) (zzi 74 (.v (.agg #[.bool bj.s,bj.m.v,bj.d.v,.bool aH.s,aH.m.v,aH.d.v])) ty57 zze (zza 76 (zI wk) (zza 78 (zI k) (zzg 73 104 _ fun _ _ a2 cG=>qym (k_r10pi cG (k:=wk) xq xq) ?_)))))))
     rintro _ eh aZ ⟨c2,dq,bC,bk,rfl,bB,bO,aN⟩
     refine zzg 75 103 _ fun _ _ aQ cx=>qym (k_r4Mul cx (bB.ext aQ).raw (bO.ext aQ).raw (dJ.ext (aX.t (a2.t (aZ.t aQ)))).raw (b4.ext (aX.t (a2.t (aZ.t aQ)))).raw xq xq) ?_
     rintro _ ds cl ⟨du,dF,rfl,cW,cp⟩
     refine zzg 77 102 _ fun _ _ ba cc=>qym (k_r10cos (p:=s) (q:=q) (k:=wk) (a:=bC) (b:=bk) (K:=1000) cc aN aE xq xq xq xq (by have h9:=(cW.ext ba);rw[(cs_x (aN.bd xq).2.2.1 (fr_nn aE)).1] at h9;exact RatN.more (L:=1000) h9 xq) (by have h9:=(cp.ext ba);rw[(cs_x (aN.bd xq).2.2.1 (fr_nn aE)).2] at h9;exact RatN.more (L:=1000) h9 xq) xq) ?_
     rintro _ dB cI ⟨dj,c8,ao,aq,rfl,bH,bE,aR⟩
     refine zzg 79 101 _ fun _ _ be cO=>qym (k_r10tight (k:=k) (m:=wk) (a:=ao) (b:=aq) cO (bH.ext be) (bE.ext be) xq xq xq) ?_
     rintro _ d2 bV ⟨ad,ag,rfl,bI⟩
     refine zza 71 (.v (.tuple #[.agg #[.bool ad.s,ad.m.v,ad.d.v,.bool ag.s,ag.m.v,ag.d.v],.bool (!(cmpS (ao / Nt.u2 (wk - k)) (aq / Nt.u2 (wk - k)) != 0))])) (zza 80 (.v (.agg #[.bool ad.s,ad.m.v,ad.d.v,.bool ag.s,ag.m.v,ag.d.v])) (zza 81 (zB (!(cmpS (ao / Nt.u2 (wk - k)) (aq / Nt.u2 (wk - k)) != 0))) (zzj ⟨57,ad.cs++ag.cs⟩ ty57 ?_)))
     refine zza 10 (zB (!(cmpS (ao / Nt.u2 (wk - k)) (aq / Nt.u2 (wk - k)) != 0))) (zzx ?_)
     refine zzp (zzf (zza 69 (zI wk) (qwi 70 ((wk:Int)*2) (wk*2:Nat) xz (zza 12 (zI (wk*2:Nat)) (zzx ?_)))))
     obtain ⟨t1,b2,hlt⟩:∃t1:Nat,((!(cmpS (ao / Nt.u2 (wk - k)) (aq / Nt.u2 (wk - k)) != 0))=true∨(t1=2001 - wk*2∧(wk*2≤674∨wk*2=k+16)))∧t1<t:=by (cases hcc:(cmpS (ao / Nt.u2 (wk - k)) (aq / Nt.u2 (wk - k)) != 0) with | false=>exact ⟨0,.inl rfl,by omega⟩ | true=>(have hny:=not_yet hg aR.1 (csR_bd aR aE xq xq).2.2.2.2.2 hcc;exact ⟨2001 - wk*2,.inr ⟨rfl,.inl xq⟩,by omega⟩))
     refine ⟨_,?_,_,by exact zzv _ _ _,t1,wk*2,(!(cmpS (ao / Nt.u2 (wk - k)) (aq / Nt.u2 (wk - k)) != 0)),ad,ag,rfl,by omega,by omega,b2,rfl,(aX.t (a2.t (aZ.t (aQ.t (cl.t (ba.t (cI.t (be.t bV.ext)))))))),(fun h=>by have h8:=not_t h;have h9:=bI h8;rw[flo_of aR.1 xq h8] at h9;exact ⟨h9.1,h9.2⟩)⟩
     omega
    refine zyc (zzp ?_)
    have hcA:=cosA_g (r:=s) (q:=q) (b:=k) ap au ay
    refine sw_weak (T:=St.of 113 [(6,.adr 6 0),(8,zB ng),(9,.adr 9 0)] [(6,⟨57,zw6⟩),(9,⟨57,x1.cs++x2.cs⟩)]) yk ?_
    exact ar _ _ (dN.t (eC.t (dn.t (dh.t (b5.t (cH.t aX)))))) ⟨x1,x2,rfl,(by rw[hcA];exact RatN.more (f0 (not_f aC)).1 xq),(by rw[hcA];exact RatN.more (f0 (not_f aC)).2 xq)⟩
   refine sq9 (zza 53 (zB (decide ((q:Int)<((2*r:Nat):Int)))) (zzb (zzu (b:=decide ((q:Int)<((2*r:Nat):Int))) xj (fun aa=>?_) (fun aa=>?_))))
   ·have qhb130:=qyt aa
    refine zzf (zza 54 (zI q) (zza 55 (zI r) (qwi 56 ((q:Int) - (r:Int)) (q - r:Nat) xz (zza 0 (zI (q - r:Nat)) (zzc 113 [(0,zI (q - r:Nat)),(1,zI q),(2,zI k),(6,.adr 6 0),(8,zB (decide ((q:Int)<((2*r:Nat):Int))))] [(6,⟨57,zw6⟩)] ?_)))))
    exact aO _ _ (Ext.refl _) ⟨q - r,(decide ((q:Int)<((2*r:Nat):Int))),(.inl ⟨aa,by have h9:=qyt aa;omega,rfl⟩),(by have h9:=qyt aa;omega),rfl⟩
   have qhb130:=qyf aa
   refine zzs (zzp ?_)
   refine sw_weak (T:=St.of 113 [(0,zI r),(1,zI q),(2,zI k),(6,.adr 6 0),(8,zB (decide ((q:Int)<((2*r:Nat):Int))))] [(6,⟨57,zw6⟩)]) yk ?_
   exact aO _ _ (Ext.refl _) ⟨r,(decide ((q:Int)<((2*r:Nat):Int))),(.inr ⟨aa,by have h9:=qyf aa;omega,rfl⟩),(by have h9:=qyf aa;omega),rfl⟩
  refine sq9 (zza 42 (zI ((Int.tmod p (2*(q:Int)))+((2*q:Nat):Int))) (zza 43 (zI q) (zza 44 (zB (decide ((q:Int)<((Int.tmod p (2*(q:Int)))+((2*q:Nat):Int))))) (zzb (zzu (b:=decide ((q:Int)<((Int.tmod p (2*(q:Int)))+((2*q:Nat):Int)))) xj (fun aL=>?_) (fun aL=>?_))))))
  ·have qhb131:=qyt aL
   refine zzf (zza 45 (zI q) (qwi 46 ((2:Int)*(q:Int)) (2*q:Nat) xz (zza 47 (zI ((Int.tmod p (2*(q:Int)))+((2*q:Nat):Int))) (zyq 48 (x:=zI (IntKind.i64.wrap (((2*q:Nat):Int) - ((Int.tmod p (2*(q:Int)))+((2*q:Nat):Int))))) (zI (((2*q:Nat):Int) - ((Int.tmod p (2*(q:Int)))+((2*q:Nat):Int)))) yw (zza 0 (zI (((2*q:Nat):Int) - ((Int.tmod p (2*(q:Int)))+((2*q:Nat):Int)))) ?_)))))
   have hfold:(((2*q:Nat):Int) - ((Int.tmod p (2*(q:Int)))+((2*q:Nat):Int)))=((fold p q:Nat):Int):=by unfold fold;dsimp only;split<;>omega
   rw[hfold]
   refine zzc 113 [(0,zI (((fold p q):Nat):Int)),(1,zI q),(2,zI k),(6,.adr 6 0)] [(6,⟨57,zw6⟩)] ?_
   exact aT _ _ (Ext.refl _) ⟨(fold p q),rfl,(fold_le p q aE),rfl⟩
  have qhb131:=qyf aL
  refine zzs (zzp ?_)
  have hfold:((Int.tmod p (2*(q:Int)))+((2*q:Nat):Int))=((fold p q:Nat):Int):=by unfold fold;dsimp only;split<;>omega
  rw[hfold]
  refine sw_weak (T:=St.of 113 [(0,zI (((fold p q):Nat):Int)),(1,zI q),(2,zI k),(6,.adr 6 0)] [(6,⟨57,zw6⟩)]) yk ?_
  exact aT _ _ (Ext.refl _) ⟨(fold p q),rfl,(fold_le p q aE),rfl⟩
 have qhb19:=qyf bg
 refine zzs (zzp ?_)
 refine zzd (sw_joinP (I:=fun S' u'=>∃ (r:Nat),(fold p q=r)∧(r≤q)∧(S'=St.of 113 [(0,zI r),(1,zI q),(2,zI k),(6,.adr 6 0)] [(6,⟨57,zw6⟩)])) ?_ (fun aA=>?_))
 ·rintro _ dk dr ⟨r,hr,hfl,rfl⟩
  refine sq9 (zza 49 (zI r) (qwi 50 ((2:Int)*(r:Int)) (2*r:Nat) xz (zza 51 (zI q) (zza 52 (zB (decide ((q:Int)<((2*r:Nat):Int)))) (zza 8 (zB (decide ((q:Int)<((2*r:Nat):Int)))) (zzb (zzd (sw_joinP (I:=fun S' u'=>∃ (s:Nat) (ng:Bool),((ng=true∧q<2*r∧s=q - r)∨(ng=false∧¬q<2*r∧s=r))∧(2*s≤q)∧(S'=St.of 113 [(0,zI s),(1,zI q),(2,zI k),(6,.adr 6 0),(8,zB ng)] [(6,⟨57,zw6⟩)])) ?_ (fun aB=>?_)))))))))
  ·rintro _ dp c1 ⟨s,ng,hs,hsq,rfl⟩
   refine sq9 (zza 57 (.v (.agg #[.bool false,qyn,qyn,.bool false,qyn,qyn])) (zzk 9 ⟨57,zw6⟩ (zzj ⟨57,zw6⟩ ty57 ?_)))
   refine zzb (zzd (sw_joinP (I:=fun S' u'=>∃ (x1:RL) (x2:RL),(S'=St.of 113 [(6,.adr 6 0),(8,zB ng),(9,.adr 9 0)] [(6,⟨57,zw6⟩),(9,⟨57,x1.cs++x2.cs⟩)])∧(RatN u' x1 (cosA s q k).1 200)∧(RatN u' x2 (cosA s q k).2 200)) ?_ (fun aj=>?_)))
   ·rintro _ c4 df ⟨x1,x2,rfl,bL,bl⟩
    refine zzd (sq9 (zza 104 (zB ng) (zzb (zzu (b:=ng) xj (fun an=>?_) (fun an=>?_)))))
    ·replace an:ng=true:=an
     refine zzz [0,1,3,0,8,31,63,127] [(0,[]),(1,[]),(3,[]),(4,[]),(2,[]),(5,[]),(6,[]),(7,[])] xj xj (zza 105 (.adr 9 3) (zzi 106 (.v (x2.v)) ty28 zze (zza 108 (.adr 9 0) (zzi 109 (.v (x1.v)) ty28 zze (zzg 107 59 _ fun _ _ bF ce=>qym (k_rqNeg ce (bl.ext bF).raw xq) ?_)))))
     rintro _ dw cy ⟨ai,rfl,cV⟩
     refine zzg 110 59 _ fun _ _ bG cT=>qym (k_rqNeg cT (bL.ext (bF.t (cy.t bG))).raw xq) ?_
     rintro _ eK ck ⟨ah,rfl,ct⟩
     refine zza 111 (.v (.agg #[.bool ai.s,ai.m.v,ai.d.v,.bool ah.s,ah.m.v,ah.d.v])) (zzj ⟨57,ai.cs++ah.cs⟩ ty57 ?_)
     refine zzb (sq9 (zzi 112 (.v (.agg #[.bool ai.s,ai.m.v,ai.d.v,.bool ah.s,ah.m.v,ah.d.v])) ty57 zze (zzj ⟨57,ai.cs++ah.cs⟩ ty57 ?_)))
     refine zza 7 (zI 0) (zzb (zzo (ret0 [.agg #[.bool ai.s,ai.m.v,ai.d.v,.bool ah.s,ah.m.v,ah.d.v],.int .i64 0] ⟨zzr ty57 zze,zzq,trivial⟩ fun dT bD=>?_)))
     have hs9:=hs.resolve_right (fun h=>by rw[an] at h;exact absurd h.1 yq)
     have hc:=cosV_hi (b:=k) hr hs9.2.1
     rw[← hs9.2.2] at hc
     refine ⟨ai,ah,rfl,RatN.more (K:=200) ?_ xq,RatN.more (K:=200) ?_ xq⟩
     ·rw[hc];exact (cV.ext (bG.t (ck.t bD)))
     rw[hc];exact (ct.ext bD)
    replace an:ng=false:=an
    refine zzs (zzp ?_)
    refine sq9 (zzi 112 (.v (.agg #[.bool x1.s,x1.m.v,x1.d.v,.bool x2.s,x2.m.v,x2.d.v])) ty57 zze (zzj ⟨57,x1.cs++x2.cs⟩ ty57 ?_))
    refine zza 7 (zI 0) (zzb (zzo (ret0 [.agg #[.bool x1.s,x1.m.v,x1.d.v,.bool x2.s,x2.m.v,x2.d.v],.int .i64 0] ⟨zzr ty57 zze,zzq,trivial⟩ fun d0 bv=>?_)))
    have hs9:=hs.resolve_left (fun h=>by rw[an] at h;exact absurd h.1 yq)
    have hc:=cosV_lo (b:=k) hr hs9.2.1
    rw[← hs9.2.2] at hc
    refine ⟨x1,x2,rfl,RatN.more (K:=200) ?_ xq,RatN.more (K:=200) ?_ xq⟩
    ·rw[hc];exact (bL.ext bv)
    rw[hc];exact (bl.ext bv)
   refine zzt (sq9 (zza 83 (zI s) (zza 84 (zB ((s:Int)==0)) (zza 82 (zB ((s:Int)==0)) (zzb (zzu (b:=(s:Int)==0) xj (fun aw=>?_) (fun aw=>?_)))))))
   ·have bf:(s:Int)=0:=by simpa using aw
    have ac:s=0:=by have h9:=aw;simp at h9;omega
    refine zzf (zzg 85 11 _ fun _ _ cM b1=>qym (k_rqOf b1 (z:=1) xq xq) ?_)
    rintro _ es b8 ⟨d7,rfl,cC⟩
    refine zza 86 (zI k) (zzg 87 99 _ fun _ _ bw cr=>qym (k_r10point (k:=k) cr (cC.ext bw) xq xq) ?_)
    rintro _ ef cz ⟨a6,a3,rfl,cD,cb⟩
    refine zzj ⟨57,a6.cs++a3.cs⟩ ty57 ?_
    refine zzx ?_
    refine zzp ?_
    have hcA:=cosA_0 (r:=s) (q:=q) (b:=k) ac
    refine sw_weak (T:=St.of 113 [(6,.adr 6 0),(8,zB ng),(9,.adr 9 0)] [(6,⟨57,zw6⟩),(9,⟨57,a6.cs++a3.cs⟩)]) yk ?_
    exact aj _ _ (cM.t (b8.t (bw.t cz.ext))) ⟨a6,a3,rfl,(by rw[hcA];exact RatN.more cD xq),(by rw[hcA];exact RatN.more cb xq)⟩
   have bf:¬((s:Int)=0):=by simpa using aw
   have ac:¬s=0:=by have h9:=aw;simp at h9;omega
   refine sq9 (zza 89 (zI s) (qwi 90 ((2:Int)*(s:Int)) (2*s:Nat) xz (zza 91 (zI q) (zza 92 (zB (((2*s:Nat):Int)==(q:Int))) (zza 88 (zB (((2*s:Nat):Int)==(q:Int))) (zzb (zzu (b:=((2*s:Nat):Int)==(q:Int)) xj (fun aU=>?_) (fun aU=>?_))))))))
   ·have ak:2*s=q:=by have h9:=aU;simp at h9;omega
    refine zzf (zzg 93 11 _ fun _ _ cm cA=>qym (k_rqOf cA (z:=0) xq xq) ?_)
    rintro _ eo cu ⟨dO,rfl,bY⟩
    refine zza 94 (zI k) (zzg 95 99 _ fun _ _ bz bQ=>qym (k_r10point (k:=k) bQ (bY.ext bz) xq xq) ?_)
    rintro _ eE cw ⟨bh,a7,rfl,b9,bP⟩
    refine zzj ⟨57,bh.cs++a7.cs⟩ ty57 ?_
    refine zzx ?_
    refine zzp ?_
    have hcA:=cosA_h (r:=s) (q:=q) (b:=k) ac ak
    refine sw_weak (T:=St.of 113 [(6,.adr 6 0),(8,zB ng),(9,.adr 9 0)] [(6,⟨57,zw6⟩),(9,⟨57,bh.cs++a7.cs⟩)]) yk ?_
    exact aj _ _ (cm.t (cu.t (bz.t cw.ext))) ⟨bh,a7,rfl,(by rw[hcA];exact RatN.more b9 xq),(by rw[hcA];exact RatN.more bP xq)⟩
   have ak:¬2*s=q:=by have h9:=aU;simp at h9;omega
   refine sq9 (zza 97 (zI s) (qwi 98 ((3:Int)*(s:Int)) (3*s:Nat) xz (zza 99 (zI q) (zza 100 (zB (((3*s:Nat):Int)==(q:Int))) (zza 96 (zB (((3*s:Nat):Int)==(q:Int))) (zzb (zzu (b:=((3*s:Nat):Int)==(q:Int)) xj (fun aS=>?_) (fun aS=>?_))))))))
   ·have av:3*s=q:=by have h9:=aS;simp at h9;omega
    refine zzf (zzg 101 5 _ fun _ _ b6 cY=>qym (k_rqFrac cY (a:=1) (b:=2) xq xq xq xq) ?_)
    rintro _ em bU ⟨dE,rfl,b7⟩
    refine zza 102 (zI k) (zzg 103 99 _ fun _ _ br bZ=>qym (k_r10point (k:=k) bZ (b7.ext br) xq xq) ?_)
    rintro _ eJ cK ⟨a9,bb,rfl,cR,bW⟩
    refine zzj ⟨57,a9.cs++bb.cs⟩ ty57 ?_
    refine zzx ?_
    refine zzp ?_
    have hcA:=cosA_3 (r:=s) (q:=q) (b:=k) ac ak av
    refine sw_weak (T:=St.of 113 [(6,.adr 6 0),(8,zB ng),(9,.adr 9 0)] [(6,⟨57,zw6⟩),(9,⟨57,a9.cs++bb.cs⟩)]) yk ?_
    exact aj _ _ (b6.t (bU.t (br.t cK.ext))) ⟨a9,bb,rfl,(by rw[hcA];exact RatN.more cR xq),(by rw[hcA];exact RatN.more bW xq)⟩
   have av:¬3*s=q:=by have h9:=aS;simp at h9;omega
   refine sq9 (zza 10 (zB false) (zzb (sq9 (zza 58 (zI s) (zza 59 (zI q) (zzg 60 5 _ fun _ _ cf cn=>qym (k_rqFrac cn (a:=(s:Int)) (b:=(q:Int)) xq xq xq xq) ?_))))))
   rintro _ dK cj ⟨dD,rfl,cJ⟩
   refine zza 61 (zI s) (zza 62 (zI q) (zzg 63 5 _ fun _ _ bq cS=>qym (k_rqFrac cS (a:=(s:Int)) (b:=(q:Int)) xq xq xq xq) ?_))
   rintro _ dv bN ⟨er,rfl,cQ⟩
   refine zzg 64 100 _ fun _ _ a8 cd=>qym (k_r4Make cd (cJ.ext (bq.t (bN.t a8))).raw (cQ.ext a8).raw xq) ?_
   rintro _ b0 cZ ⟨aF,aG,rfl,cB,bS⟩
   refine zzk 11 ⟨57,zw6⟩ (zzj ⟨57,aF.cs++aG.cs⟩ ty57 ?_)
   refine zzb (sq9 (zza 65 (zI k) (qwi 66 ((k:Int)+16) (k+16:Nat) xz (zza 12 (zI (k+16:Nat)) (zzb (zzt (zyn (I:=fun bn S' u'=>∃ (t:Nat) (wk:Nat) (ok:Bool) (x1:RL) (x2:RL),(bn=t)∧(k+16≤wk)∧(wk≤1400)∧(ok=true∨(t=2001 - wk∧(wk≤674∨wk=k+16)))∧(S'=St.of 113 [(2,zI k),(6,.adr 6 0),(8,zB ng),(9,.adr 9 0),(10,zB ok),(11,.adr 11 0),(12,zI wk)] [(6,⟨57,zw6⟩),(9,⟨57,x1.cs++x2.cs⟩),(11,⟨57,aF.cs++aG.cs⟩)])∧(Ext b0 u')∧(IfI u' ok x1 x2 (Nt.gr k (Nt.flo (coN s q) k)) (Nt.gr k (Nt.flo (coN s q) k+1)))) (fun m S u1 u2 e h=>by obtain ⟨t,wk,ok,x1,x2,hm,p0,p1,p2,hS,hE,f0⟩:=h;exact ⟨t,wk,ok,x1,x2,hm,p0,p1,p2,hS,hE.trans e,f0.ext e⟩) _ yk ⟨(2001 - (k+16)),(k+16),false,(⟨false,⟨none,0,0⟩,⟨none,0,0⟩⟩:RL),(⟨false,⟨none,0,0⟩,⟨none,0,0⟩⟩:RL),rfl,by omega,by omega,.inr ⟨rfl,.inr rfl⟩,rfl,(Ext.refl _),(fun h=>absurd h yq)⟩ ?_)))))))
   rintro bn _ eq ⟨t,wk,ok,x1,x2,c7,ez,dM,b3,rfl,aY,f0⟩
   refine zzd (sq9 (zza 67 (zB ok) (zza 68 (zB (!ok)) (zzc 113 [(2,zI k),(6,.adr 6 0),(8,zB ng),(9,.adr 9 0),(11,.adr 11 0),(12,zI wk),(68,zB (!ok))] [(6,⟨57,zw6⟩),(9,⟨57,x1.cs++x2.cs⟩),(11,⟨57,aF.cs++aG.cs⟩)] (zzu (b := !ok) xj (fun aD=>?_) (fun aD=>?_))))))
   ·have hok:=not_t aD
    have dR:t=2001 - wk∧(wk≤674∨wk=k+16):=b3.resolve_left (by rw[hok];decide)
    have hg:=hG s xq xq xq
    refine zzs (zzp ?_)
    refine zzd (zzt (zzz [0,1,0,7,0,31,0,127,255,511,511,1023,4095] [(0,[]),(2,[]),(4,[]),(6,[]),(1,[]),(3,[]),(5,[]),(7,[]),(8,[]),(9,[]),(10,[]),(11,[]),(12,[])] xj xj (zza 72 (zI wk) (zzi 74 (.v (.agg #[.bool aF.s,aF.m.v,aF.d.v,.bool aG.s,aG.m.v,aG.d.v])) ty57 zze (zza 76 (zI wk) (zza 78 (zI k) (zzg 73 104 _ fun _ _ a1 ca=>qym (k_r10pi ca (k:=wk) xq xq) ?_)))))))
    rintro _ ee a4 ⟨dc,db,bK,bu,rfl,bt,bA,aM⟩
    refine zzg 75 103 _ fun _ _ aV cv=>qym (k_r4Mul cv (bt.ext aV).raw (bA.ext aV).raw (cB.ext (aY.t (a1.t (a4.t aV)))).raw (bS.ext (aY.t (a1.t (a4.t aV)))).raw xq xq) ?_
    rintro _ ek ci ⟨dL,d8,rfl,cE,cg⟩
    refine zzg 77 102 _ fun _ _ a0 cP=>qym (k_r10cos (p:=s) (q:=q) (k:=wk) (a:=bK) (b:=bu) (K:=1000) cP aM aE xq xq xq xq (by have h9:=(cE.ext a0);rw[(cs_x (aM.bd xq).2.2.1 (fr_nn aE)).1] at h9;exact RatN.more (L:=1000) h9 xq) (by have h9:=(cg.ext a0);rw[(cs_x (aM.bd xq).2.2.1 (fr_nn aE)).2] at h9;exact RatN.more (L:=1000) h9 xq) xq) ?_
    rintro _ dU cN ⟨dd,c3,al,am,rfl,bs,bM,aW⟩
    refine zzg 79 101 _ fun _ _ bc cL=>qym (k_r10tight (k:=k) (m:=wk) (a:=al) (b:=am) cL (bs.ext bc) (bM.ext bc) xq xq xq) ?_
    rintro _ d4 cU ⟨ae,af,rfl,bJ⟩
    refine zza 71 (.v (.tuple #[.agg #[.bool ae.s,ae.m.v,ae.d.v,.bool af.s,af.m.v,af.d.v],.bool (!(cmpS (al / Nt.u2 (wk - k)) (am / Nt.u2 (wk - k)) != 0))])) (zza 80 (.v (.agg #[.bool ae.s,ae.m.v,ae.d.v,.bool af.s,af.m.v,af.d.v])) (zza 81 (zB (!(cmpS (al / Nt.u2 (wk - k)) (am / Nt.u2 (wk - k)) != 0))) (zzj ⟨57,ae.cs++af.cs⟩ ty57 ?_)))
    refine zza 10 (zB (!(cmpS (al / Nt.u2 (wk - k)) (am / Nt.u2 (wk - k)) != 0))) (zzx ?_)
    refine zzp (zzf (zza 69 (zI wk) (qwi 70 ((wk:Int)*2) (wk*2:Nat) xz (zza 12 (zI (wk*2:Nat)) (zzx ?_)))))
    obtain ⟨t1,b2,hlt⟩:∃t1:Nat,((!(cmpS (al / Nt.u2 (wk - k)) (am / Nt.u2 (wk - k)) != 0))=true∨(t1=2001 - wk*2∧(wk*2≤674∨wk*2=k+16)))∧t1<t:=by (cases hcc:(cmpS (al / Nt.u2 (wk - k)) (am / Nt.u2 (wk - k)) != 0) with | false=>exact ⟨0,.inl rfl,by omega⟩ | true=>(have hny:=not_yet hg aW.1 (csR_bd aW aE xq xq).2.2.2.2.2 hcc;exact ⟨2001 - wk*2,.inr ⟨rfl,.inl xq⟩,by omega⟩))
    refine ⟨_,?_,_,by exact zzv _ _ _,t1,wk*2,(!(cmpS (al / Nt.u2 (wk - k)) (am / Nt.u2 (wk - k)) != 0)),ae,af,rfl,by omega,by omega,b2,rfl,(aY.t (a1.t (a4.t (aV.t (ci.t (a0.t (cN.t (bc.t cU.ext)))))))),(fun h=>by have h8:=not_t h;have h9:=bJ h8;rw[flo_of aW.1 xq h8] at h9;exact ⟨h9.1,h9.2⟩)⟩
    omega
   refine zyc (zzp ?_)
   have hcA:=cosA_g (r:=s) (q:=q) (b:=k) ac ak av
   refine sw_weak (T:=St.of 113 [(6,.adr 6 0),(8,zB ng),(9,.adr 9 0)] [(6,⟨57,zw6⟩),(9,⟨57,x1.cs++x2.cs⟩)]) yk ?_
   exact aj _ _ (cf.t (cj.t (bq.t (bN.t (a8.t (cZ.t aY)))))) ⟨x1,x2,rfl,(by rw[hcA];exact RatN.more (f0 (not_f aD)).1 xq),(by rw[hcA];exact RatN.more (f0 (not_f aD)).2 xq)⟩
  refine sq9 (zza 53 (zB (decide ((q:Int)<((2*r:Nat):Int)))) (zzb (zzu (b:=decide ((q:Int)<((2*r:Nat):Int))) xj (fun ab=>?_) (fun ab=>?_))))
  ·have qhb242:=qyt ab
   refine zzf (zza 54 (zI q) (zza 55 (zI r) (qwi 56 ((q:Int) - (r:Int)) (q - r:Nat) xz (zza 0 (zI (q - r:Nat)) (zzc 113 [(0,zI (q - r:Nat)),(1,zI q),(2,zI k),(6,.adr 6 0),(8,zB (decide ((q:Int)<((2*r:Nat):Int))))] [(6,⟨57,zw6⟩)] ?_)))))
   exact aB _ _ (Ext.refl _) ⟨q - r,(decide ((q:Int)<((2*r:Nat):Int))),(.inl ⟨ab,by have h9:=qyt ab;omega,rfl⟩),(by have h9:=qyt ab;omega),rfl⟩
  have qhb242:=qyf ab
  refine zzs (zzp ?_)
  refine sw_weak (T:=St.of 113 [(0,zI r),(1,zI q),(2,zI k),(6,.adr 6 0),(8,zB (decide ((q:Int)<((2*r:Nat):Int))))] [(6,⟨57,zw6⟩)]) yk ?_
  exact aB _ _ (Ext.refl _) ⟨r,(decide ((q:Int)<((2*r:Nat):Int))),(.inr ⟨ab,by have h9:=qyf ab;omega,rfl⟩),(by have h9:=qyf ab;omega),rfl⟩
 refine sq9 (zza 42 (zI (Int.tmod p (2*(q:Int)))) (zza 43 (zI q) (zza 44 (zB (decide ((q:Int)<(Int.tmod p (2*(q:Int)))))) (zzb (zzu (b:=decide ((q:Int)<(Int.tmod p (2*(q:Int))))) xj (fun aP=>?_) (fun aP=>?_))))))
 ·have qhb243:=qyt aP
  refine zzf (zza 45 (zI q) (qwi 46 ((2:Int)*(q:Int)) (2*q:Nat) xz (zza 47 (zI (Int.tmod p (2*(q:Int)))) (zyq 48 (x:=zI (IntKind.i64.wrap (((2*q:Nat):Int) - (Int.tmod p (2*(q:Int)))))) (zI (((2*q:Nat):Int) - (Int.tmod p (2*(q:Int))))) yw (zza 0 (zI (((2*q:Nat):Int) - (Int.tmod p (2*(q:Int))))) ?_)))))
  have hfold:(((2*q:Nat):Int) - (Int.tmod p (2*(q:Int))))=((fold p q:Nat):Int):=by unfold fold;dsimp only;split<;>omega
  rw[hfold]
  refine zzc 113 [(0,zI (((fold p q):Nat):Int)),(1,zI q),(2,zI k),(6,.adr 6 0)] [(6,⟨57,zw6⟩)] ?_
  exact aA _ _ (Ext.refl _) ⟨(fold p q),rfl,(fold_le p q aE),rfl⟩
 have qhb243:=qyf aP
 refine zzs (zzp ?_)
 have hfold:(Int.tmod p (2*(q:Int)))=((fold p q:Nat):Int):=by unfold fold;dsimp only;split<;>omega
 rw[hfold]
 refine sw_weak (T:=St.of 113 [(0,zI (((fold p q):Nat):Int)),(1,zI q),(2,zI k),(6,.adr 6 0)] [(6,⟨57,zw6⟩)]) yk ?_
 exact aA _ _ (Ext.refl _) ⟨(fold p q),rfl,(fold_le p q aE),rfl⟩
end Go.Proofs.YtedobdigeeflcaaGreat
