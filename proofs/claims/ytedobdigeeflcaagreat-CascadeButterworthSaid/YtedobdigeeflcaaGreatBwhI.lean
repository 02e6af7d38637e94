/- Parts of the proof: contracts of functions, each walked once, and plain laws. -/
import Derived.Test.YtedobdigeeflcaaGreatBwhH
import Derived.WalkKit
set_option linter.unusedVariables false
set_option maxHeartbeats 8000000
namespace Go.Proofs.YtedobdigeeflcaaGreat
open Nt
open Go.RowKit
theorem k_r5Same {u w:World} {x:Sl} {l:List Rat} {y:Sl} {m:List Rat} {K M:Nat} (d:Dat u w) (hx:PolV u x l K) (hy:PolV u y m M) (hK:K≤40000000) (hM:M≤40000000) (hx9:l.length≤1000000000) (hy9:m.length≤1000000000):qyc 12 #[x.v,y.v] w (Post u w fun v u'=>v=.bool (decide (trimQ l=trimQ m))):=by
 have hlen:=hx.len
 have hlen2:=hy.len
 have htl:=zzh l
 have htm:=zzh m
 refine zzm Tryz.func12 rfl Tryz.ntmps12 Tryz.results12 d ?_
 refine sq9 (zza 4 (zB false) (zzb (sq9 (zza 5 (.v (x.v)) (zzg 6 52 _ fun _ _ ac af=>qym (k_r5Trim af (hx.ext ac) xq xk) ?_)))))
 rintro _ u14 ai ⟨y12,rfl,aa⟩
 have hly12:=aa.len
 refine zza 7 (.v (y.v)) (zzg 8 52 _ fun _ _ ab ag=>qym (k_r5Trim ag (hy.ext (ac.t (ai.t ab))) xq xk) ?_)
 rintro _ u20 aj ⟨y18,rfl,ae⟩
 have hly18:=ae.len
 refine zzg 9 51 _ fun _ _ ad ah=>qym (k_r5Equal ah (aa.ext (ab.t (aj.t ad))) (ae.ext ad) xk xk) ?_
 rintro _ u24 g25 rfl
 refine zza 4 (zB (decide ((trimQ l)=(trimQ m)))) (zzb (zzo (ret0 [.bool (decide ((trimQ l)=(trimQ m)))] ⟨zzq,trivial⟩ fun u27 e28=>?_)))
 rfl
theorem k_r5At {u w:World} {x:Sl} {l:List Rat} {K i:Nat} (d:Dat u w) (hx:PolV u x l K) (hK:K≤40000000) (hx9:l.length≤1000000000) (hi9:i≤1000000000):qyc 105 #[x.v,.int .i64 (i:Int)] w (Post u w fun v u'=>∃r:RL,v=r.v∧RatN u' r (l.getD i 0) (K+2)):=by
 have hlen:=hx.len
 refine zzm Tryz.func105 rfl Tryz.ntmps105 Tryz.results105 d ?_
 refine sq9 (zzk 4 ⟨28,zw3⟩ (zzb (zzd (sq9 (zza 5 (zI i) (zza 6 (zB (decide ((i:Int)<0))) (zyq 7 (x:=zB (decide ((i:Int)<0))) (zB false) (by rw[show (decide ((i:Int)<0))=false from decide_eq_false xq]) (zza 8 (zI i) ?_ (hw:=w1 2 false 7)))))))))
 refine zza 9 (.v (x.v)) ?_ (hw:=w1 2 false 7)
 refine zza 10 (zI x.n) ?_ (hw:=w1 2 false 7)
 refine zza 11 (zB (decide ((x.n:Int)≤(i:Int)))) ?_ (hw:=w1 2 false 7)
 refine zza 12 (zB (decide ((x.n:Int)≤(i:Int)))) (zzb (zzu (b:=decide ((x.n:Int)≤(i:Int))) xj (fun aa=>?_) (fun aa=>?_)))
 ·have qhb12:=qyt aa
  refine sq9 (zzg 13 11 _ fun _ _ _ ah=>qym (k_rqOf ah (z:=0) xq xq) ?_)
  rintro _ u16 g17 ⟨af,rfl,al⟩
  refine zzj ⟨28,af.cs⟩ ty28 ?_
  refine zzb (zzo (zzw (ret0 [af.v] ⟨zzr ty28 zze,trivial⟩ fun u19 am=>?_)))
  have e9:l.getD i 0=((0:Int):Rat):=co_ge xq
  rw[e9]
  exact ⟨af,rfl,RatN.more (K:=2) (al.ext am) xq⟩
 have qhb12:=qyf aa
 refine zzs (zzp ?_)
 refine sq9 (zza 14 (.v (x.v)) (zza 15 (zI i) ?_))
 have hl21:=hx.len
 obtain ⟨aj,b21,ag,ac,ad,ab⟩:=pol_at hx (i:=i) xq
 refine zya 16 (ag+i*3) (n:=x.n) (off:=ag) (sz:=3) (i:=(i:Int)) xq ac xq xq sl37 (zym 17 aj.cs ad ty28 (zzg 18 57 _ fun _ _ an ak=>qym (k_rqTrim ak (ab.ext an) xq) ?_))
 rintro _ u25 g26 ⟨ae,rfl,ao⟩
 refine zzj ⟨28,ae.cs⟩ ty28 ?_
 refine zzb (zzo (ret0 [ae.v] ⟨zzr ty28 zze,trivial⟩ fun u28 ai=>?_))
 exact ⟨ae,rfl,RatN.more (K:=K) (ao.ext ai) xq⟩
theorem k_r5Add {u w:World} {x:Sl} {l:List Rat} {y:Sl} {m:List Rat} {K M:Nat} (d:Dat u w) (hx:PolV u x l K) (hy:PolV u y m M) (hK:K≤20000000) (hM:M≤20000000) (hx9:l.length≤1000000000) (hy9:m.length≤1000000000):qyc 41 #[x.v,y.v] w (Post u w fun v u'=>∃y:Sl,v=y.v∧PolN u' y (trimQ (addQ l m)) (K+M+6)):=by
 have hlen:=hx.len
 have hlen2:=hy.len
 refine zzm Tryz.func41 rfl Tryz.ntmps41 Tryz.results41 d ?_
 refine sq9 (zza 4 (.v (qyn)) (zzb (sq9 (zza 5 (.v (qyn)) (zzb (zzd (sq9 (zza 6 (zI 0) (zzb (zzt (zyn (I:=fun bg S' u'=>(bg=max x.n y.n∧S'=St.of 31 [(0,.v (x.v)),(1,.v (y.v)),(5,.v (qyn)),(6,zI 0)] []∧Ext u u')∨(∃ (i:Nat) (L:List RL) (cs:List Value) (cp:Nat),bg=(max x.n y.n) - i∧i≤max x.n y.n∧0<i∧L.length=i∧cs.length=cp*3∧i≤cp∧cp≤maxLen∧cs.take (i*3)=rcs L∧S'=St.of 31 [(0,.v (x.v)),(1,.v (y.v)),(5,.slc 28 0 i cp),(6,zI i)] [(28,⟨28,cs⟩)]∧Ext u u'∧RatsN u' L ((addQ l m).take i) (K+M+6))) (fun m S u1 u2 e h=>by rcases h with ⟨a,b,c⟩ | ⟨a1,a2,a3,a4,b1,b2,b3,b4,b5,b6,b7,b8,b9,b10,b11⟩;exact .inl ⟨a,b,c.trans e⟩;exact .inr ⟨a1,a2,a3,a4,b1,b2,b3,b4,b5,b6,b7,b8,b9,b10.trans e,b11.ext e⟩) _ yk (.inl ⟨rfl,rfl,Ext.refl _⟩) ?_)))))))))))
 rintro bg _ ck (⟨aV,rfl,ab⟩ | ⟨i,L,cs,cp,aV,hi,hp,hL,hc,hle,hmx,ht,rfl,ab,hR⟩)
 ·change SW _ _ _ _ (St.of 31 [(0,.v (.slice x.a x.n x.c)),(1,.v (.slice y.a y.n y.c)),(5,.v (qyn)),(6,.v (.int .i64 0))] []) _ _
  refine zzd (sq9 (zza 7 (zI 0) (zza 8 (.v (x.v)) (zza 9 (zI x.n) (zza 10 (zB (decide ((0:Int)<(x.n:Int)))) ?_)))))
  rcases Bool.eq_false_or_eq_true (decide ((0:Int)<(x.n:Int))) with hs12 | hs12
  ·refine qbi 11 hs12 ?_
   have qhs12:=qyt hs12
   refine zzn 12 (uw 4 false true 11) (zzn 13 (uw 4 false true 11) (zzn 14 (uw 4 false true 11) (zzn 15 (uw 4 false true 11) (zza 16 (zB true) (zzb (zyr xj (zzs (zzp ?_))))))))
   refine zzd (zzt (zzf (zza 19 (.v (qyn)) (zza 20 (.v (x.v)) (zza 21 (zI 0) (zzg 22 105 _ fun _ _ a8 cw=>qym ((show Calls _ _ #[_,.int .i64 (0)] _ _ from k_r5At (i:=0) cw (hx.ext (ab.trans a8)) xq xk xq)) ?_))))))
   rintro _ u16 bz ⟨r14,rfl,ch⟩
   refine zza 23 (.v (y.v)) (zza 24 (zI 0) (zzg 25 105 _ fun _ _ bk cD=>qym ((show Calls _ _ #[_,.int .i64 (0)] _ _ from k_r5At (i:=0) cD (hy.ext (ab.t (a8.t (bz.t bk)))) xq xk xq)) ?_))
   rintro _ u22 bL ⟨r20,rfl,cy⟩
   refine zzg 26 17 _ fun _ _ bl cc=>qym (k_rqAdd cc (ch.ext (bk.t (bL.t bl))).raw (cy.ext bl).raw xq xq) ?_
   rintro _ u28 cf ⟨aF,rfl,bF⟩
   refine zxx 27 ⟨28,aF.cs⟩ 1 (fun bQ cb bq bC=>?_)
   have cr:PolN cb (⟨some ⟨bQ,0,none⟩,1,1⟩:Sl) [((l.getD 0 0)+(m.getD 0 0))] ((K+2)+(M+2)+2):=pol_lit (L:=[aF]) bC (rats1 (bF.ext bq)) rfl yq
   refine sy_app0 28 (T:=37) (E:=28) (z:=.agg #[.bool false,qyn,qyn]) (size:=3) (bytes:=56) (b:=bQ) (off:=0) (m:=1) aF.cs xj xj xj yq rfl (lit_news ((Ext.refl _).cells bC)) (rl_one aF) yq yq yq ?_
   intro bE aP bV bc bb br
   refine zza 5 (.slc 28 0 1 bE) (zzx ?_)
   refine zzp (zzf (zza 17 (zI 0) (zza 18 (zI 1) (zza 6 (zI 1) (zzx ?_)))))
   have aS:0<(addQ l m).length:=by rw[addQ_len];omega
   refine ⟨_,?_,_,by exact zzv _ _ _,.inr ⟨1,[aF],aP,bE,rfl,by omega,by omega,by simp,bb,by omega,bc,br,rfl,(ab.t (a8.t (bz.t (bk.t (bL.t (bl.t (cf.t bq))))))),(app_first (RatN.more (K:=((K+2)+(M+2)+2)) (bF.ext bq) xq) aS (by have h9:=addQ_co l m (0);unfold Nt.co at h9;exact h9.symm))⟩⟩
   omega
  refine qbi 11 hs12 ?_
  have qhs12:=qyf hs12
  refine zza 12 (zI 0) ?_ (hw:=w1 4 false 11)
  refine zza 13 (.v (y.v)) ?_ (hw:=w1 4 false 11)
  refine zza 14 (zI y.n) ?_ (hw:=w1 4 false 11)
  refine zza 15 (zB (decide ((0:Int)<(y.n:Int)))) ?_ (hw:=w1 4 false 11)
  refine zza 16 (zB (decide ((0:Int)<(y.n:Int)))) (zzb (zzu (b:=decide ((0:Int)<(y.n:Int))) xj (fun ai=>?_) (fun ai=>?_)))
  ·have qhb38:=qyt ai
   refine zzs (zzp ?_)
   refine zzd (zzt (zzf (zza 19 (.v (qyn)) (zza 20 (.v (x.v)) (zza 21 (zI 0) (zzg 22 105 _ fun _ _ a0 cm=>qym ((show Calls _ _ #[_,.int .i64 (0)] _ _ from k_r5At (i:=0) cm (hx.ext (ab.trans a0)) xq xk xq)) ?_))))))
   rintro _ u42 bH ⟨r40,rfl,bS⟩
   refine zza 23 (.v (y.v)) (zza 24 (zI 0) (zzg 25 105 _ fun _ _ a7 ca=>qym ((show Calls _ _ #[_,.int .i64 (0)] _ _ from k_r5At (i:=0) ca (hy.ext (ab.t (a0.t (bH.t a7)))) xq xk xq)) ?_))
   rintro _ u48 bJ ⟨r46,rfl,cz⟩
   refine zzg 26 17 _ fun _ _ bv bX=>qym (k_rqAdd bX (bS.ext (a7.t (bJ.t bv))).raw (cz.ext bv).raw xq xq) ?_
   rintro _ u54 bY ⟨ap,rfl,bM⟩
   refine zxx 27 ⟨28,ap.cs⟩ 1 (fun bK cu aW bx=>?_)
   have bZ:PolN cu (⟨some ⟨bK,0,none⟩,1,1⟩:Sl) [((l.getD 0 0)+(m.getD 0 0))] ((K+2)+(M+2)+2):=pol_lit (L:=[ap]) bx (rats1 (bM.ext aW)) rfl yq
   refine sy_app0 28 (T:=37) (E:=28) (z:=.agg #[.bool false,qyn,qyn]) (size:=3) (bytes:=56) (b:=bK) (off:=0) (m:=1) ap.cs xj xj xj yq rfl (lit_news ((Ext.refl _).cells bx)) (rl_one ap) yq yq yq ?_
   intro bA aR cg bu bj bn
   refine zza 5 (.slc 28 0 1 bA) (zzx ?_)
   refine zzp (zzf (zza 17 (zI 0) (zza 18 (zI 1) (zza 6 (zI 1) (zzx ?_)))))
   have ba:0<(addQ l m).length:=by rw[addQ_len];omega
   refine ⟨_,?_,_,by exact zzv _ _ _,.inr ⟨1,[ap],aR,bA,rfl,by omega,by omega,by simp,bj,by omega,bu,bn,rfl,(ab.t (a0.t (bH.t (a7.t (bJ.t (bv.t (bY.t aW))))))),(app_first (RatN.more (K:=((K+2)+(M+2)+2)) (bM.ext aW) xq) ba (by have h9:=addQ_co l m (0);unfold Nt.co at h9;exact h9.symm))⟩⟩
   omega
  have qhb38:=qyf ai
  refine zyc (zzp (zzd ?_))
  have aQ:PolN ck ⟨none,0,0⟩ (addQ l m) (K+M+6):=by have h9:addQ l m=[]:=List.eq_nil_of_length_eq_zero (by rw[addQ_len];omega);rw[h9];exact pol_nil _ _
  refine zzf (zza 29 (.v (qyn)) (zzg 30 52 _ fun _ _ cA cF=>qym (k_r5Trim cF (aQ.ext cA).raw xq xk) ?_))
  rintro _ u68 g69 ⟨be,rfl,bD⟩
  have hly66:=bD.len
  refine zza 4 (.v (be.v)) (zzb (zzo (ret0 [be.v] ⟨zzq,trivial⟩ fun u71 cl=>?_)))
  refine ⟨be,rfl,?_⟩
  exact (bD.ext cl)
 change SW _ _ _ _ (St.of 31 [(0,.v (.slice x.a x.n x.c)),(1,.v (.slice y.a y.n y.c)),(5,.slc 28 0 i cp),(6,.v (.int .i64 (i:Int)))] [(28,⟨28,cs⟩)]) _ _
 refine zzd (sq9 (zza 7 (zI i) (zza 8 (.v (x.v)) (zza 9 (zI x.n) (zza 10 (zB (decide ((i:Int)<(x.n:Int)))) ?_)))))
 rcases Bool.eq_false_or_eq_true (decide ((i:Int)<(x.n:Int))) with hs73 | hs73
 ·refine qbi 11 hs73 ?_
  have qhs73:=qyt hs73
  refine zzn 12 (uw 4 false true 11) (zzn 13 (uw 4 false true 11) (zzn 14 (uw 4 false true 11) (zzn 15 (uw 4 false true 11) (zza 16 (zB true) (zzb (zyr xj (zzs (zzp ?_))))))))
  refine zzd (zzt (zzf (zza 19 (.slc 28 0 i cp) (zza 20 (.v (x.v)) (zza 21 (zI i) (zzg 22 105 _ fun _ _ aL ct=>qym ((show Calls _ _ #[_,.int .i64 ((i:Int))] _ _ from k_r5At (i:=i) ct (hx.ext (ab.trans aL)) xq xk xq)) ?_))))))
  rintro _ u77 aN ⟨r75,rfl,cx⟩
  refine zza 23 (.v (y.v)) (zza 24 (zI i) (zzg 25 105 _ fun _ _ aI cv=>qym ((show Calls _ _ #[_,.int .i64 ((i:Int))] _ _ from k_r5At (i:=i) cv (hy.ext (ab.t (aL.t (aN.t aI)))) xq xk xq)) ?_))
  rintro _ u83 bh ⟨r81,rfl,b0⟩
  refine zzg 26 17 _ fun _ _ aJ bU=>qym (k_rqAdd bU (cx.ext (aI.t (bh.t aJ))).raw (b0.ext aJ).raw xq xq) ?_
  rintro _ u89 bR ⟨an,rfl,bG⟩
  refine zxx 27 ⟨28,an.cs⟩ 1 (fun bO bW aK bP=>?_)
  have ce:PolN bW (⟨some ⟨bO,0,none⟩,1,1⟩:Sl) [((l.getD i 0)+(m.getD i 0))] ((K+2)+(M+2)+2):=pol_lit (L:=[an]) bP (rats1 (bG.ext aK)) rfl yq
  refine sy_app1 28 (T:=37) (E:=28) (z:=.agg #[.bool false,qyn,qyn]) (size:=3) (bytes:=56) (b:=bO) (off:=0) (m:=1) (n:=i) (cap:=cp) (t:=28) (cs0:=cs) [5,19,28] an.cs xj xj xj yq rfl (lit_news ((Ext.refl _).cells bP)) (rl_one an) yq yv xq xq xq xq xw ?_
  intro bI aH cB aZ aY aM
  have au:aH.take ((i+1)*3)=rcs (L++[an]):=by rw[aM,ht,rcs_app];rfl
  refine zza 5 (.slc 28 0 (i+1) bI) (zzx ?_)
  refine zzp (zzf (zza 17 (zI i) (qwi 18 ((i:Int)+1) (i+1:Nat) xz (zza 6 (zI (i+1:Nat)) (zzx ?_)))))
  have aT:i<(addQ l m).length:=by rw[addQ_len];omega
  refine ⟨_,?_,_,by exact zzv _ _ _,.inr ⟨i+1,L++[an],aH,bI,rfl,by omega,by omega,by simp;omega,aY,by omega,aZ,au,rfl,(ab.t (aL.t (aN.t (aI.t (bh.t (aJ.t (bR.t aK))))))),(app_next (hR.ext (aL.t (aN.t (aI.t (bh.t (aJ.t (bR.t aK))))))) (RatN.more (K:=((K+2)+(M+2)+2)) (bG.ext aK) xq) aT (by have h9:=addQ_co l m (i);unfold Nt.co at h9;exact h9.symm))⟩⟩
  omega
 refine qbi 11 hs73 ?_
 have qhs73:=qyf hs73
 refine zza 12 (zI i) ?_ (hw:=w1 4 false 11)
 refine zza 13 (.v (y.v)) ?_ (hw:=w1 4 false 11)
 refine zza 14 (zI y.n) ?_ (hw:=w1 4 false 11)
 refine zza 15 (zB (decide ((i:Int)<(y.n:Int)))) ?_ (hw:=w1 4 false 11)
 refine zza 16 (zB (decide ((i:Int)<(y.n:Int)))) (zzb (zzu (b:=decide ((i:Int)<(y.n:Int))) xj (fun am=>?_) (fun am=>?_)))
 ·have qhb99:=qyt am
  refine zzs (zzp ?_)
  refine zzd (zzt (zzf (zza 19 (.slc 28 0 i cp) (zza 20 (.v (x.v)) (zza 21 (zI i) (zzg 22 105 _ fun _ _ ad a6=>qym ((show Calls _ _ #[_,.int .i64 ((i:Int))] _ _ from k_r5At (i:=i) a6 (hx.ext (ab.trans ad)) xq xk xq)) ?_))))))
  rintro _ cC al ⟨ci,rfl,bs⟩
  refine zza 23 (.v (y.v)) (zza 24 (zI i) (zzg 25 105 _ fun _ _ af bf=>qym ((show Calls _ _ #[_,.int .i64 ((i:Int))] _ _ from k_r5At (i:=i) bf (hy.ext (ab.t (ad.t (al.t af)))) xq xk xq)) ?_))
  rintro _ cn ah ⟨cq,rfl,aU⟩
  refine zzg 26 17 _ fun _ _ ac bi=>qym (k_rqAdd bi (bs.ext (af.t (ah.t ac))).raw (aU.ext ac).raw xq xq) ?_
  rintro _ bT ax ⟨aa,rfl,aG⟩
  refine zxx 27 ⟨28,aa.cs⟩ 1 (fun aE bt ae aw=>?_)
  have bB:PolN bt (⟨some ⟨aE,0,none⟩,1,1⟩:Sl) [((l.getD i 0)+(m.getD i 0))] ((K+2)+(M+2)+2):=pol_lit (L:=[aa]) aw (rats1 (aG.ext ae)) rfl yq
  refine sy_app1 28 (T:=37) (E:=28) (z:=.agg #[.bool false,qyn,qyn]) (size:=3) (bytes:=56) (b:=aE) (off:=0) (m:=1) (n:=i) (cap:=cp) (t:=28) (cs0:=cs) [5,19,28] aa.cs xj xj xj yq rfl (lit_news ((Ext.refl _).cells aw)) (rl_one aa) yq yv xq xq xq xq xw ?_
  intro ao ag bw ay aD ar
  have aj:ag.take ((i+1)*3)=rcs (L++[aa]):=by rw[ar,ht,rcs_app];rfl
  refine zza 5 (.slc 28 0 (i+1) ao) (zzx ?_)
  refine zzp (zzf (zza 17 (zI i) (qwi 18 ((i:Int)+1) (i+1:Nat) xz (zza 6 (zI (i+1:Nat)) (zzx ?_)))))
  have aq:i<(addQ l m).length:=by rw[addQ_len];omega
  refine ⟨_,?_,_,by exact zzv _ _ _,.inr ⟨i+1,L++[aa],ag,ao,rfl,by omega,by omega,by simp;omega,aD,by omega,ay,aj,rfl,(ab.t (ad.t (al.t (af.t (ah.t (ac.t (ax.t ae))))))),(app_next (hR.ext (ad.t (al.t (af.t (ah.t (ac.t (ax.t ae))))))) (RatN.more (K:=((K+2)+(M+2)+2)) (aG.ext ae) xq) aq (by have h9:=addQ_co l m (i);unfold Nt.co at h9;exact h9.symm))⟩⟩
  omega
 have qhb99:=qyf am
 refine zyc (zzp (zzd (zyp (r:=5) (t:=28) [5,28] xw xj zq zq xj (fun aB a9 aO bN aC=>?_))))
 have aA:PolN a9 ⟨some ⟨aB,0,none⟩,i,cp⟩ (addQ l m) (K+M+6):=by have h8:=pol_data aC ht hc hle hmx (hR.ext aO);rw[List.take_of_length_le (l:=addQ l m) (by rw[addQ_len];omega)] at h8;exact h8
 refine zzf (zza 29 (.v (.slice (some ⟨aB,0,none⟩) i cp)) (zzg 30 52 _ fun _ _ aX a5=>qym (k_r5Trim a5 (aA.ext aX).raw xq xk) ?_))
 rintro _ cd cE ⟨ak,rfl,av⟩
 have hly132:=av.len
 refine zza 4 (.v (ak.v)) (zzb (zzo (ret0 [ak.v] ⟨zzq,trivial⟩ fun cj bo=>?_)))
 refine ⟨ak,rfl,?_⟩
 exact (av.ext bo)
theorem k_r5Sub {u w:World} {x:Sl} {l:List Rat} {y:Sl} {m:List Rat} {K M:Nat} (d:Dat u w) (hx:PolV u x l K) (hy:PolV u y m M) (hK:K≤10000000) (hM:M≤10000000) (hx9:l.length≤1000000000) (hy9:m.length≤1000000000):qyc 43 #[x.v,y.v] w (Post u w fun v u'=>∃y:Sl,v=y.v∧PolN u' y (trimQ (addQ l (trimQ (m.map (· * (((-1):Int):Rat)))))) (K+M+20)):=by
 have hlen:=hx.len
 have hlen2:=hy.len
 refine zzm Tryz.func43 rfl Tryz.ntmps43 Tryz.results43 d ?_
 refine sq9 (zza 4 (.v (qyn)) (zzb (sq9 (zza 5 (.v (x.v)) (zza 6 (.v (y.v)) (zzg 7 11 _ fun _ _ ac aj=>qym (k_rqOf aj (z:=(-1)) xq xq) ?_))))))
 rintro _ u14 ad ⟨r12,rfl,ah⟩
 refine zzg 8 39 _ fun _ _ aa ak=>qym (k_r5Scale ak (hy.ext (ac.t (ad.t aa))) (ah.ext aa).raw xq xq xq) ?_
 rintro _ u20 am ⟨y18,rfl,ag⟩
 have hly18:=ag.len
 refine zzg 9 41 _ fun _ _ af al=>qym (k_r5Add al (hx.ext (ac.t (ad.t (aa.t (am.t af))))) (ag.ext af).raw xq xq xk xk) ?_
 rintro _ u26 g27 ⟨ab,rfl,ae⟩
 have hly24:=ae.len
 refine zza 4 (.v (ab.v)) (zzb (zzo (ret0 [ab.v] ⟨zzq,trivial⟩ fun u29 ai=>?_)))
 refine ⟨ab,rfl,PolN.more (K:=(K+(M+2+1)+6)) ?_ xq⟩
 exact (ae.ext ai)
end Go.Proofs.YtedobdigeeflcaaGreat
namespace Go.Proofs.YtedobdigeeflcaaGreat.Nt
open Go.RowKit
open Pol
section
variable {l:List Rat} {x a b c:Rat} {i n D A B K:Nat} {q:Pol}
theorem evL_trim (l:List Rat) (x:Rat):evL (trimQ l) x=evL l x:=evL_congr (trim_co l) x
theorem lo_self (c:Rat):lo c c=c:=by unfold lo;split<;>rfl
theorem hi_self (c:Rat):hi c c=c:=by unfold hi;split<;>rfl
end
section
variable {l m W:List Rat} {x q:Rat} {i A B C:Nat}
def hp (q:Rat) (i:Nat):Rat:=(((q.den^(i - 1):Nat):Int):Rat)
def hs (W:List Rat) (q:Rat) (i:Nat):Rat:=hp q i*evL (W.drop (W.length - i)) q
theorem ev_addL (l m:List Rat) (x:Rat):evL (trimQ (addQ l m)) x=evL l x+evL m x:=by
 rw[evL_trim,← mk_ev,mk_add,ev_add,mk_ev,mk_ev]
theorem ev_mulL (l m:List Rat) (x:Rat):evL (trimQ (mulQ l m)) x=evL l x*evL m x:=by
 rw[evL_trim,← mk_ev,mk_mul,ev_mul,mk_ev,mk_ev]
theorem ev_drop_all {k:Nat} (h:l.length≤k):evL (l.drop k) x=((0:Int):Rat):=by rw[List.drop_eq_nil_of_le h];rfl
theorem ev_drop1 {k:Nat} (h:0<k) (h2:k≤l.length):evL (l.drop (k - 1)) x=evL (l.drop k) x*x+l.getD (k - 1) 0:=by
 rw[List.drop_eq_getElem_cons (show k - 1<l.length by omega),show k - 1+1=k by omega,qyg,List.getElem?_eq_getElem (show k - 1<l.length by omega),Option.getD_some]
 show _+x*_=_
 grind
theorem ev_drop0:evL (l.drop 0) x=evL l x:=rfl
end
end Go.Proofs.YtedobdigeeflcaaGreat.Nt
namespace Go.Proofs.YtedobdigeeflcaaGreat
open Nt
open Go.RowKit
theorem k_r5Eval {u w:World} {x:Sl} {l:List Rat} {r:RL} {q:Rat} {K M S:Nat} (d:Dat u w) (hx:PolV u x l K) (hr:RatV u r q M) (hS:K+M+4≤S) (hS9:l.length*S≤20000000) (hM:M≤10000000) (hK:K≤10000000) (hl9:l.length≤1000000):qyc 14 #[x.v,r.v] w (Post u w fun v u'=>∃p:RL,v=p.v∧RatN u' p (Pol.evL l q) (l.length*S+2)):=by
 have hlen:=hx.len
 refine zzm Tryz.func14 rfl Tryz.ntmps14 Tryz.results14 d ?_
 refine sq9 (zzk 3 ⟨28,r.cs⟩ (zzk 4 ⟨28,zw3⟩ (zzb (sq9 (zzg 7 11 _ fun _ _ ad aq=>qym (k_rqOf aq (z:=0) xq xq) ?_)))))
 rintro _ aB ae ⟨am,rfl,ap⟩
 refine zzk 5 ⟨28,zw3⟩ (zzj ⟨28,am.cs⟩ ty28 ?_)
 refine zzb (zzd (sq9 (zza 8 (.v (x.v)) (zza 9 (zI x.n) (qwi 10 ((x.n:Int) - 1) ((x.n:Int) - 1) (by rw[IntWalk.i64_in _ xq];try omega) (zza 6 (zI ((x.n:Int) - 1)) (zzb (zzt (zyn (I:=fun an S' u'=>∃ (k:Nat) (ry:RL),(an=k)∧(k≤l.length)∧(S'=St.of 24 [(0,.v (x.v)),(3,.adr 3 0),(4,.adr 4 0),(5,.adr 5 0),(6,zI ((k:Int) - 1))] [(3,⟨28,r.cs⟩),(4,⟨28,zw3⟩),(5,⟨28,ry.cs⟩)])∧(Ext aB u')∧(RatN u' ry (Pol.evL (l.drop k) q) ((l.length - k)*S+2))) (fun m S u1 u2 e h=>by obtain ⟨k,ry,hm,p0,hS,hE,f0⟩:=h;exact ⟨k,ry,hm,p0,hS,hE.trans e,f0.ext e⟩) _ yk ⟨x.n,am,rfl,by omega,rfl,(Ext.refl _),(by rw[ev_drop_all xq];exact RatN.more (K:=2) ap xq)⟩ ?_)))))))))
 rintro an _ u17 ⟨k,ry,ar,hk,rfl,ab,hY⟩
 have hm1:(l.length - k)*S≤l.length*S:=Nat.mul_le_mul_right _ xq
 refine zzd (sq9 (zza 11 (zI ((k:Int) - 1)) (zza 12 (zB (decide ((0:Int)≤((k:Int) - 1)))) (zzb (zzu (b:=decide ((0:Int)≤((k:Int) - 1))) xj (fun aa=>?_) (fun aa=>?_))))))
 ·have qhb18:=qyt aa
  refine zzs (zzp ?_)
  refine zzd (zzt (zzz [0,0,3,0,0,24,56,127,255] [(0,[]),(1,[]),(3,[]),(4,[]),(5,[]),(6,[]),(2,[]),(7,[]),(8,[])] xj xj (zzi 15 (.v (ry.v)) ty28 zze (zzi 16 (.v (r.v)) ty28 zze (zza 18 (.v (x.v)) (zyq 19 (x:=zI ((k:Int) - 1)) (zI (k - 1:Nat)) (eqI xq) ?_))))))
  have hl19:=(hx.ext (ad.t (ae.t ab))).len
  obtain ⟨aw,b19,ak,ah,af,ai⟩:=pol_at (hx.ext (ad.t (ae.t ab))) (i:=(k - 1)) xq
  refine zya 20 (ak+(k - 1)*3) (n:=x.n) (off:=ak) (sz:=3) (i:=((k - 1:Nat):Int)) xq ah xq xq sl37 (zym 21 aw.cs af ty28 (zzg 17 15 _ fun _ _ ac aA=>qym (k_rqMul aA (hY.ext ac).raw (hr.ext (ad.t (ae.t (ab.trans ac)))) xq xq) ?_))
  rintro _ u23 al ⟨r21,rfl,ay⟩
  refine zzg 22 17 _ fun _ _ ag au=>qym (k_rqAdd au (ay.ext ag).raw (ai.ext (ac.t (al.t ag))) xq xq) ?_
  rintro _ u29 av ⟨ao,rfl,aC⟩
  refine zzj ⟨28,ao.cs⟩ ty28 ?_
  refine zzx ?_
  refine zzp (zzf (zza 13 (zI ((k:Int) - 1)) (qwi 14 (((k:Int) - 1) - 1) (((k - 1:Nat):Int) - 1) (by rw[IntWalk.i64_in _ xq];try omega) (zza 6 (zI (((k - 1:Nat):Int) - 1)) (zzx ?_)))))
  have hs1:(l.length - (k - 1))*S=(l.length - k)*S+S:=by rw[show l.length - (k - 1)=(l.length - k)+1 by omega,Nat.add_mul,Nat.one_mul]
  refine ⟨_,?_,_,by exact zzv _ _ _,k - 1,ao,rfl,by omega,rfl,(ab.t (ac.t (al.t (ag.t av.ext)))),(by rw[ev_drop1 xq xq];exact RatN.more (K:=((((l.length - k)*S+2)+M+1)+K+2)) aC xq)⟩
  omega
 have qhb18:=qyf aa
 refine zyc (zzp (sq9 (zzi 23 (.v (ry.v)) ty28 zze (zzj ⟨28,ry.cs⟩ ty28 ?_))))
 refine zzb (zzo (ret0 [ry.v] ⟨zzr ty28 zze,trivial⟩ fun u32 ax=>?_))
 have aj:k=0:=by omega
 refine ⟨ry,rfl,RatN.more (K:=((l.length - k)*S+2)) ?_ xq⟩
 have h9:=(hY.ext ax)
 rw[aj,ev_drop0] at h9
 rw[aj]
 exact h9
end Go.Proofs.YtedobdigeeflcaaGreat
namespace Go.Proofs.YtedobdigeeflcaaGreat.Cyc
open Go.RowKit
def tab:List (List Int):=[[],
 [-1,1],
 [1,1],
 [1,1,1],
 [1,0,1],
 [1,1,1,1,1],
 [1,-1,1],
 [1,1,1,1,1,1,1],
 [1,0,0,0,1],
 [1,0,0,1,0,0,1],
 [1,-1,1,-1,1],
 [1,1,1,1,1,1,1,1,1,1,1],
 [1,0,-1,0,1],
 [1,1,1,1,1,1,1,1,1,1,1,1,1],
 [1,-1,1,-1,1,-1,1],
 [1,-1,0,1,-1,1,0,-1,1],
 [1,0,0,0,0,0,0,0,1],
 [1,1,1,1,1,1,1,1,1,1,1,1,1,1,1,1,1],
 [1,0,0,-1,0,0,1],
 [1,1,1,1,1,1,1,1,1,1,1,1,1,1,1,1,1,1,1],
 [1,0,-1,0,1,0,-1,0,1],
 [1,-1,0,1,-1,0,1,0,-1,1,0,-1,1],
 [1,-1,1,-1,1,-1,1,-1,1,-1,1],
 [1,1,1,1,1,1,1,1,1,1,1,1,1,1,1,1,1,1,1,1,1,1,1],
 [1,0,0,0,-1,0,0,0,1],
 [1,0,0,0,0,1,0,0,0,0,1,0,0,0,0,1,0,0,0,0,1],
 [1,-1,1,-1,1,-1,1,-1,1,-1,1,-1,1],
 [1,0,0,0,0,0,0,0,0,1,0,0,0,0,0,0,0,0,1],
 [1,0,-1,0,1,0,-1,0,1,0,-1,0,1],
 [1,1,1,1,1,1,1,1,1,1,1,1,1,1,1,1,1,1,1,1,1,1,1,1,1,1,1,1,1],
 [1,1,0,-1,-1,-1,0,1,1],
 [1,1,1,1,1,1,1,1,1,1,1,1,1,1,1,1,1,1,1,1,1,1,1,1,1,1,1,1,1,1,1],
 [1,0,0,0,0,0,0,0,0,0,0,0,0,0,0,0,1],
 [1,-1,0,1,-1,0,1,-1,0,1,-1,1,0,-1,1,0,-1,1,0,-1,1],
 [1,-1,1,-1,1,-1,1,-1,1,-1,1,-1,1,-1,1,-1,1],
 [1,-1,0,0,0,1,-1,1,-1,0,1,-1,1,-1,1,0,-1,1,-1,1,0,0,0,-1,1],
 [1,0,0,0,0,0,-1,0,0,0,0,0,1],
 [1,1,1,1,1,1,1,1,1,1,1,1,1,1,1,1,1,1,1,1,1,1,1,1,1,1,1,1,1,1,1,1,1,1,1,1,1],
 [1,-1,1,-1,1,-1,1,-1,1,-1,1,-1,1,-1,1,-1,1,-1,1],
 [1,-1,0,1,-1,0,1,-1,0,1,-1,0,1,0,-1,1,0,-1,1,0,-1,1,0,-1,1],
 [1,0,0,0,-1,0,0,0,1,0,0,0,-1,0,0,0,1],
 [1,1,1,1,1,1,1,1,1,1,1,1,1,1,1,1,1,1,1,1,1,1,1,1,1,1,1,1,1,1,1,1,1,1,1,1,1,1,1,1,1],
 [1,1,0,-1,-1,0,1,0,-1,-1,0,1,1],
 [1,1,1,1,1,1,1,1,1,1,1,1,1,1,1,1,1,1,1,1,1,1,1,1,1,1,1,1,1,1,1,1,1,1,1,1,1,1,1,1,1,1,1],
 [1,0,-1,0,1,0,-1,0,1,0,-1,0,1,0,-1,0,1,0,-1,0,1],
 [1,0,0,-1,0,0,0,0,0,1,0,0,-1,0,0,1,0,0,0,0,0,-1,0,0,1],
 [1,-1,1,-1,1,-1,1,-1,1,-1,1,-1,1,-1,1,-1,1,-1,1,-1,1,-1,1],
 [1,1,1,1,1,1,1,1,1,1,1,1,1,1,1,1,1,1,1,1,1,1,1,1,1,1,1,1,1,1,1,1,1,1,1,1,1,1,1,1,1,1,1,1,1,1,1],
 [1,0,0,0,0,0,0,0,-1,0,0,0,0,0,0,0,1],
 [1,0,0,0,0,0,0,1,0,0,0,0,0,0,1,0,0,0,0,0,0,1,0,0,0,0,0,0,1,0,0,0,0,0,0,1,0,0,0,0,0,0,1],
 [1,0,0,0,0,-1,0,0,0,0,1,0,0,0,0,-1,0,0,0,0,1],
 [1,-1,0,1,-1,0,1,-1,0,1,-1,0,1,-1,0,1,-1,1,0,-1,1,0,-1,1,0,-1,1,0,-1,1,0,-1,1],
 [1,0,-1,0,1,0,-1,0,1,0,-1,0,1,0,-1,0,1,0,-1,0,1,0,-1,0,1],
 [1,1,1,1,1,1,1,1,1,1,1,1,1,1,1,1,1,1,1,1,1,1,1,1,1,1,1,1,1,1,1,1,1,1,1,1,1,1,1,1,1,1,1,1,1,1,1,1,1,1,1,1,1],
 [1,0,0,0,0,0,0,0,0,-1,0,0,0,0,0,0,0,0,1],
 [1,-1,0,0,0,1,-1,0,0,0,1,0,-1,0,0,1,0,-1,0,0,1,0,0,-1,0,1,0,0,-1,0,1,0,0,0,-1,1,0,0,0,-1,1],
 [1,0,0,0,-1,0,0,0,1,0,0,0,-1,0,0,0,1,0,0,0,-1,0,0,0,1],
 [1,-1,0,1,-1,0,1,-1,0,1,-1,0,1,-1,0,1,-1,0,1,0,-1,1,0,-1,1,0,-1,1,0,-1,1,0,-1,1,0,-1,1],
 [1,-1,1,-1,1,-1,1,-1,1,-1,1,-1,1,-1,1,-1,1,-1,1,-1,1,-1,1,-1,1,-1,1,-1,1],
 [1,1,1,1,1,1,1,1,1,1,1,1,1,1,1,1,1,1,1,1,1,1,1,1,1,1,1,1,1,1,1,1,1,1,1,1,1,1,1,1,1,1,1,1,1,1,1,1,1,1,1,1,1,1,1,1,1,1,1],
 [1,0,1,0,0,0,-1,0,-1,0,-1,0,0,0,1,0,1],
 [1,1,1,1,1,1,1,1,1,1,1,1,1,1,1,1,1,1,1,1,1,1,1,1,1,1,1,1,1,1,1,1,1,1,1,1,1,1,1,1,1,1,1,1,1,1,1,1,1,1,1,1,1,1,1,1,1,1,1,1,1],
 [1,-1,1,-1,1,-1,1,-1,1,-1,1,-1,1,-1,1,-1,1,-1,1,-1,1,-1,1,-1,1,-1,1,-1,1,-1,1],
 [1,0,0,-1,0,0,0,0,0,1,0,0,-1,0,0,0,0,0,1,0,0,0,0,0,-1,0,0,1,0,0,0,0,0,-1,0,0,1],
 [1,0,0,0,0,0,0,0,0,0,0,0,0,0,0,0,0,0,0,0,0,0,0,0,0,0,0,0,0,0,0,0,1]]
def T (n:Nat):List Int:=(tab[n]?).getD []
def start (n:Nat):List Int := -1::(List.replicate (n - 1) 0++[1])
def deg (n:Nat):Nat:=(T n).length - 1
def addZip (c:Int):List Int→List Int→List Int
 | x::R,y::Q=>wrap64 (x+wrap64 (c*y))::addZip c R Q
 | R,_=>R
def addAt (c:Int) (Q:List Int):Nat→List Int→List Int
 | 0,R=>addZip c R Q
 | k+1,x::R=>x::addAt c Q k R
 | _+1,[]=>[]
def mulQgo (Q:List Int):List Int→Nat→List Int→List Int
 | [],_,N=>N
 | x::P,i,N=>mulQgo Q P (i+1) (addAt x Q i N)
def mulQ (P Q:List Int):List Int:=mulQgo Q P 0 (List.replicate (P.length+(Q.length - 1)) 0)
/-! ### The powers of the root, in coordinates -/
def ph (n i:Nat):Int:=(T n)[i]?.getD 0
def up (n:Nat) (v:Nat→Int) (i:Nat):Int:=if i<deg n then (if i=0 then 0 else v (i - 1)) - v (deg n - 1)*ph n i else 0
section
variable {n:Nat} (h1:1≤n) (h2:n≤64)
include h1 h2
end
section
variable {n:Nat} (h1:1≤n) (h2:n≤64)
include h1 h2
end
section
variable {n:Nat} (h1:1≤n) (h2:n≤64)
include h1 h2
end
end Go.Proofs.YtedobdigeeflcaaGreat.Cyc
namespace Go.Proofs.YtedobdigeeflcaaGreat
open Nt
namespace Nt
set_option maxRecDepth 100000
end Nt
end Go.Proofs.YtedobdigeeflcaaGreat
namespace Go.Proofs.YtedobdigeeflcaaGreat.Nt
open Go.RowKit
open Pol
def lin (r:Rat):Pol:=mk' [-r,((1:Int):Rat)]
theorem lin_eq (r:Rat):lin r=C (-r)+X*1:=by
 unfold lin
 rw[mk_cons',show mk' [((1:Int):Rat)]=1 from eqk (by decide +kernel)]
theorem ev_one (x:Rat):(1:Pol).ev x=1:=ev_C 1 x
theorem ev_lin (r x:Rat):(lin r).ev x=x - r:=by
 rw[lin_eq,ev_cons,ev_one];grind
theorem lin_c (r:Rat) (i:Nat):(lin r).c i=if i=0 then -r else if i=1 then 1 else 0:=by
 unfold lin
 rw[mk_cons]
 split
 ·rfl
 rw[mk_c]
 match i with
 | 0=>contradiction
 | 1=>rfl
 | i+2=>rw[if_neg xq];exact co_ge zv
theorem len_lin (r:Rat):(lin r).len=2:=by
 have h1:(lin r).len≤2:=len_le fun i hi=>by rw[lin_c,if_neg xq,if_neg xq]
 have h2:(lin r).c 1≠0:=by rw[lin_c,if_neg yq,if_pos rfl];decide
 have:=c_ne_len h2
 omega
theorem root_div (p:Pol) (r:Rat):∃h,p=h*lin r+C (p.ev r):=by
 induction p using ind with
 | h0=>exact ⟨0,by rw[ev_zero,zero_mul,C_zero];grind⟩
 | h1 a p ih =>
  obtain ⟨h,e⟩:=ih
  refine ⟨X*h+C (p.ev r),?_⟩
  have hl:=lin_eq r
  have hX:X=lin r+C r:=by
   rw[hl,C_neg];grind
  rw[ev_cons,C_add,C_mul]
  have e2:X*p=X*h*lin r+C (p.ev r)*X:=by
   have:X*p=X*(h*lin r+C (p.ev r)):=by rw[← e]
   rw[this];grind
  rw[e2]
  have e3:C (p.ev r)*X=C (p.ev r)*(lin r+C r):=by rw[← hX]
  rw[e3];grind
theorem evL_map (l:List Rat) (c x:Rat):evL (l.map (· * c)) x=evL l x*c:=by
 induction l with
 | nil=>show (0:Rat)=0*c;grind
 | cons a l ih=>show a*c+x*evL (l.map (· * c)) x=(a+x*evL l x)*c;rw[ih];grind
theorem evL_add' (l m:List Rat) (x:Rat):evL (addQ l m) x=evL l x+evL m x:=by rw[← evL_trim (addQ l m),ev_addL]
theorem ev_mulL' (l m:List Rat) (x:Rat):evL (mulQ l m) x=evL l x*evL m x:=by rw[← evL_trim (mulQ l m),ev_mulL]
theorem zero_of_roots {f:Nat→Rat} (hf:∀i j,i<j→f i≠f j):∀ (n:Nat) (p:Pol) (m:Nat),p.len≤n→(∀k,p.ev (f (m+k))=0)→p=0:=by
 intro n
 induction n with
 | zero=>intro p m hp _;exact zero_of_len xq
 | succ n ih =>
  intro p m hp h
  obtain ⟨q,e⟩:=root_div p (f m)
  have h0:=h 0
  rw[Nat.add_zero] at h0
  rw[h0,C_zero,add_zero] at e
  by_cases h3:q=0
  ·rw[e,h3,zero_mul]
  have hl:=len_mul h3 (show lin (f m)≠0 from fun k=>by have h9:=len_lin (f m);rw[k,len_zero] at h9;omega)
  rw[len_lin,← e] at hl
  have hq:=ih q (m+1) xq fun k=>by
   have h1:=h (1+k)
   rw[e,ev_mul,ev_lin,← Nat.add_assoc] at h1
   have h2:=hf m (m+1+k) xq
   rcases Rat.mul_eq_zero.1 h1 with h4 | h4
   ·exact h4
   exact absurd (by grind) h2
  exact absurd hq h3
def fz (k:Nat):Rat:=(((k+1:Nat):Rat)+1 / ((k+1:Nat):Rat)) / 2
theorem fz_ne (i j:Nat) (h:i<j):fz i≠fz j:=by
 unfold fz
 obtain ⟨d,rfl⟩:∃d,j=i+1+d:=⟨j - i - 1,by omega⟩
 have ha:(0:Rat)<((i+1:Nat):Rat):=Rat.natCast_pos.2 xq
 have hb:((i+1+d+1:Nat):Rat)=((i+1:Nat):Rat)+((d+1:Nat):Rat):=by rw[← Rat.natCast_add];congr 1
 have hd:(0:Rat)<((d+1:Nat):Rat):=Rat.natCast_pos.2 xq
 have ha1:(1:Rat)≤((i+1:Nat):Rat):=by
  have:((1:Nat):Rat)≤((i+1:Nat):Rat):=Rat.natCast_le_natCast.2 xq
  exact this
 rw[hb]
 generalize ((i+1:Nat):Rat)=a at *
 generalize ((d+1:Nat):Rat)=t at *
 intro e
 have hab:a*(1 / a)=1:=by grind
 have hbb:(a+t)*(1 / (a+t))=1:=by grind
 have e2:a+1 / a=a+t+1 / (a+t):=by grind
 have e3:t*(a*(a+t) - 1)=0:=by
  generalize 1 / a=u at *
  generalize 1 / (a+t)=v at *
  have:u - v=t:=by grind
  have h1:(u - v)*(a*(a+t))=t*(a*(a+t)):=by rw[this]
  have h2:(u - v)*(a*(a+t))=(a*u)*(a+t) - ((a+t)*v)*a:=by grind
  rw[h2,hab,hbb] at h1
  grind
 rcases Rat.mul_eq_zero.1 e3 with h4 | h4
 ·grind
 have h5:a*(a+t)=a*a+a*t:=by grind
 have h6:(1:Rat)≤a*a:=by
  have:=Rat.mul_le_mul_of_nonneg_left ha1 (Rat.le_of_lt ha)
  grind
 have h7:0<a*t:=Rat.mul_pos ha hd
 grind
theorem same_of_ev {p q:List Rat} (h:∀z w:Rat,z*w=1→evL p ((z+w) / 2)=evL q ((z+w) / 2)):trimQ p=trimQ q:=by
 have key:mk' p - mk' q=0:=zero_of_roots fz_ne _ _ 0 qyl fun k=>by
  have hk:((0+k+1:Nat):Rat)≠0:=Ne.symm (Rat.ne_of_lt (Rat.natCast_pos.2 xq))
  have h1:=h ((0+k+1:Nat):Rat) (1 / ((0+k+1:Nat):Rat)) (by grind)
  have e:mk' p - mk' q=mk' p+C (-1)*mk' q:=by rw[C_neg,show C 1=(1:Pol) from rfl];grind
  rw[e,ev_add,ev_Cmul,mk_ev,mk_ev]
  unfold fz
  rw[h1];grind
 have e2:mk' p=mk' q:=by grind
 exact mk_eq.1 e2
end Go.Proofs.YtedobdigeeflcaaGreat.Nt
namespace Go.Proofs.YtedobdigeeflcaaGreat
open Nt
namespace Nt
theorem bflo_of {p q:Nat} {z:Int} (hq:0<q) (hp:2*p≤q) (h1:xLo (cs8 p q) / u2 88=z) (h2:xHi (cs8 p q) / u2 88=z):flo (coN p q) 40=z :=
 (FlO.of (b:=40) (w:=128) (cs8_ok hq hp) yq h1 h2).flo
theorem bflo_14:flo (coN 1 4) 40=777472127993:=bflo_of yq yq (by decide +kernel) (by decide +kernel)
theorem bflo_15:flo (coN 1 5) 40=889523592383:=bflo_of yq yq (by decide +kernel) (by decide +kernel)
theorem bflo_25:flo (coN 2 5) 40=339767778495:=bflo_of yq yq (by decide +kernel) (by decide +kernel)
theorem bflo_16:flo (coN 1 6) 40=952205001410:=bflo_of yq yq (by decide +kernel) (by decide +kernel)
theorem bflo_17:flo (coN 1 7) 40=990625746522:=bflo_of yq yq (by decide +kernel) (by decide +kernel)
theorem bflo_27:flo (coN 2 7) 40=685534286943:=bflo_of yq yq (by decide +kernel) (by decide +kernel)
theorem bflo_37:flo (coN 3 7) 40=244664354308:=bflo_of yq yq (by decide +kernel) (by decide +kernel)
theorem bflo_18:flo (coN 1 8) 40=1015816288660:=bflo_of yq yq (by decide +kernel) (by decide +kernel)
theorem bflo_38:flo (coN 3 8) 40=420764883642:=bflo_of yq yq (by decide +kernel) (by decide +kernel)
noncomputable def bwT (n k:Nat):Rat:=(cosV (((2*k+1:Nat):Int)) n 40).1
def tq:Nat→Nat→Rat
 | 2,_=>0
 | 3,_=>1 / 2
 | 4,0=>gr 40 777472127993 | 4,_=>gr 40 (-777472127994)
 | 5,0=>gr 40 889523592383 | 5,_=>gr 40 (-339767778496)
 | 6,0=>gr 40 952205001410 | 6,1=>0 | 6,_=>gr 40 (-952205001411)
 | 7,0=>gr 40 990625746522 | 7,1=>gr 40 244664354308 | 7,_=>gr 40 (-685534286944)
 | 8,0=>gr 40 1015816288660 | 8,1=>gr 40 420764883642 | 8,2=>gr 40 (-420764883643) | 8,_=>gr 40 (-1015816288661)
 | _,_=>0
theorem bw_up {p q n k:Nat} {z:Int} (hf:fold (((2*k+1:Nat):Int)) n=p) (hn:n=q) (h1:¬q<2*p) (h2:p≠0) (h3:2*p≠q) (h4:3*p≠q) (hz:flo (coN p q) 40=z):bwT n k=gr 40 z:=by
 unfold bwT cosV cosF
 rw[hf,hn,if_neg h1]
 unfold cosA
 rw[if_neg h2,if_neg h3,if_neg h4,hz]
theorem bw_dn {p q n k r:Nat} {z:Int} (hf:fold (((2*k+1:Nat):Int)) n=r) (hn:n=q) (h1:q<2*r) (hr:q - r=p) (h2:p≠0) (h3:2*p≠q) (h4:3*p≠q) (hz:flo (coN p q) 40=z):bwT n k=gr 40 (-(z+1)):=by
 unfold bwT cosV cosF
 rw[hf,hn,if_pos h1,hr]
 unfold cosA
 rw[if_neg h2,if_neg h3,if_neg h4,hz]
 show -gr 40 (z+1)=_
 rw[gr_neg]
theorem bwT_val {n k:Nat} (hn:n≤8) (hk:k<n / 2):bwT n k=tq n k:=by
 have hc:(n=2∧k=0)∨(n=3∧k=0)∨(n=4∧k=0)∨(n=4∧k=1)∨(n=5∧k=0)∨(n=5∧k=1)∨(n=6∧k=0)∨(n=6∧k=1)∨(n=6∧k=2)∨(n=7∧k=0)∨(n=7∧k=1)∨(n=7∧k=2)∨(n=8∧k=0)∨(n=8∧k=1)∨(n=8∧k=2)∨(n=8∧k=3):=by omega
 rcases hc with ⟨rfl,rfl⟩ | ⟨rfl,rfl⟩ | ⟨rfl,rfl⟩ | ⟨rfl,rfl⟩ | ⟨rfl,rfl⟩ | ⟨rfl,rfl⟩ | ⟨rfl,rfl⟩ | ⟨rfl,rfl⟩ | ⟨rfl,rfl⟩ | ⟨rfl,rfl⟩ | ⟨rfl,rfl⟩ | ⟨rfl,rfl⟩ | ⟨rfl,rfl⟩ | ⟨rfl,rfl⟩ | ⟨rfl,rfl⟩ | ⟨rfl,rfl⟩
 ·unfold bwT cosV cosF;rw[show fold (((2*0+1:Nat):Int)) 2=1 by decide +kernel,if_neg yq];unfold cosA;rw[if_neg yq,if_pos yq];rfl
 ·unfold bwT cosV cosF;rw[show fold (((2*0+1:Nat):Int)) 3=1 by decide +kernel,if_neg yq];unfold cosA;rw[if_neg yq,if_neg yq,if_pos yq];show dnQ (1 / 2) 40=1 / 2;decide +kernel
 ·exact bw_up (p:=1) (by decide +kernel) rfl yq yq yq yq bflo_14
 ·exact bw_dn (p:=1) (r:=3) (by decide +kernel) rfl yq rfl yq yq yq bflo_14
 ·exact bw_up (p:=1) (by decide +kernel) rfl yq yq yq yq bflo_15
 ·exact bw_dn (p:=2) (r:=3) (by decide +kernel) rfl yq rfl yq yq yq bflo_25
 ·exact bw_up (p:=1) (by decide +kernel) rfl yq yq yq yq bflo_16
 ·unfold bwT cosV cosF;rw[show fold (((2*1+1:Nat):Int)) 6=3 by decide +kernel,if_neg yq];unfold cosA;rw[if_neg yq,if_pos yq];rfl
 ·exact bw_dn (p:=1) (r:=5) (by decide +kernel) rfl yq rfl yq yq yq bflo_16
 ·exact bw_up (p:=1) (by decide +kernel) rfl yq yq yq yq bflo_17
 ·exact bw_up (p:=3) (by decide +kernel) rfl yq yq yq yq bflo_37
 ·exact bw_dn (p:=2) (r:=5) (by decide +kernel) rfl yq rfl yq yq yq bflo_27
 ·exact bw_up (p:=1) (by decide +kernel) rfl yq yq yq yq bflo_18
 ·exact bw_up (p:=3) (by decide +kernel) rfl yq yq yq yq bflo_38
 ·exact bw_dn (p:=3) (r:=5) (by decide +kernel) rfl yq rfl yq yq yq bflo_38
 exact bw_dn (p:=1) (r:=7) (by decide +kernel) rfl yq rfl yq yq yq bflo_18
noncomputable def bwP (n:Nat) (z:Rat):Nat→Rat
 | 0=>1
 | k+1=>bwP n z k*(z*z - 2*bwT n k*z+1)
def bwL (n:Nat):Nat→List Rat
 | 0=>[1]
 | k+1=>mulQ (bwL n k) [1,-2*tq n k,1]
def bwF (n:Nat):List Rat:=if n%2=1 then mulQ (bwL n (n / 2)) [1,1] else bwL n (n / 2)
noncomputable def bwA (n:Nat) (z:Rat):Rat:=if n%2=1 then bwP n z (n / 2)*(z+1) else bwP n z (n / 2)
theorem bwP_ev {n:Nat} (hn:n≤8) (z:Rat):∀k,k≤n / 2→bwP n z k=Pol.evL (bwL n k) z
 | 0,_=>by show (1:Rat)=1+z*0;rw[Rat.mul_zero,Rat.add_zero]
 | k+1,hk=>by
  rw[bwP,bwL,ev_mulL',bwP_ev hn z k xq,bwT_val hn xq]
  congr 1
  show _=1+z*(-2*tq n k+z*(1+z*0))
  grind
theorem bwA_ev {n:Nat} (hn:n≤8) (z:Rat):bwA n z=Pol.evL (bwF n) z:=by
 unfold bwA bwF
 split
 ·rw[ev_mulL',bwP_ev hn z _ qyl]
  congr 1
  show _=1+z*(1+z*0)
  grind
 exact bwP_ev hn z _ qyl
def sumAbs:List Rat→Rat
 | []=>0
 | a::l=>absQ a+sumAbs l
def oneL (n:Nat):List Rat:=1::(List.replicate (n - 1) 0++[1])
def errL (n:Nat):List Rat:=(List.range (n+1)).map fun i=>co (bwF n) i - co (oneL n) i
theorem err_all:((List.range 8).all fun i=>decide (sumAbs (errL (i+1))*(u2 34:Rat)≤1)&&decide ((bwF (i+1)).length≤i+2))=true:=by decide +kernel
theorem pw_le {z:Rat} (h:0≤z) {j n:Nat} (hj:j≤n):z^j≤1+z^n∧0≤z^j:=by
 have h0:∀i:Nat,0≤z^i:=fun i=>by
  induction i with
  | zero=>rw[Rat.pow_zero];decide
  | succ i ih=>rw[Rat.pow_succ];exact Rat.mul_nonneg ih h
 refine ⟨?_,h0 j⟩
 by_cases c:z≤1
 ·have:∀i:Nat,z^i≤1:=fun i=>by
   induction i with
   | zero=>rw[Rat.pow_zero];decide
   | succ i ih =>
    rw[Rat.pow_succ]
    have:=Rat.mul_le_mul_of_nonneg_left c (h0 i)
    grind
  have a:=this j
  have b:=h0 n
  grind
 have hz:1≤z:=by grind
 obtain ⟨d,rfl⟩:∃d,n=j+d:=⟨n - j,by omega⟩
 have:∀d:Nat,z^j≤z^(j+d):=fun d=>by
  induction d with
  | zero=>exact Rat.le_refl
  | succ d ih =>
   rw[show j+(d+1)=j+d+1 from rfl,Rat.pow_succ]
   have:=Rat.mul_le_mul_of_nonneg_left hz (h0 (j+d))
   grind
 have:=this d
 grind
theorem ev_small {z:Rat} (h:0≤z) {n:Nat}:∀ (l:List Rat) (j:Nat),j+l.length≤n+1→z^j*Pol.evL l z≤sumAbs l*(1+z^n) ∧ -(sumAbs l*(1+z^n))≤z^j*Pol.evL l z
 | [],j,_=>by
  show z^j*0≤0*_ ∧ -(0*_)≤z^j*0
  rw[Rat.mul_zero,Rat.zero_mul];decide
 | a::l,j,hj=>by
  obtain ⟨h1,h2⟩:=ev_small h (n:=n) l (j+1) (by simp at hj;omega)
  obtain ⟨h3,h4⟩:=pw_le h (show j≤n by simp at hj;omega)
  have e:z^j*Pol.evL (a::l) z=a*z^j+z^(j+1)*Pol.evL l z:=by
   show z^j*(a+z*Pol.evL l z)=_
   rw[Rat.pow_succ];grind
  have ha:a*z^j≤absQ a*(1+z^n) ∧ -(absQ a*(1+z^n))≤a*z^j:=by
   by_cases c:a<0
   ·have e:absQ a = -a:=by unfold absQ;rw[if_pos c]
    have:=Rat.mul_le_mul_of_nonneg_left h3 (show 0 ≤ -a by grind)
    have:=Rat.mul_nonneg (show 0 ≤ -a by grind) h4
    rw[e];constructor<;>grind
   have e:absQ a=a:=by unfold absQ;rw[if_neg c]
   have:=Rat.mul_le_mul_of_nonneg_left h3 (show 0≤a by grind)
   have:=Rat.mul_nonneg (show 0≤a by grind) h4
   rw[e];constructor<;>grind
  rw[e]
  have es:sumAbs (a::l)*(1+z^n)=absQ a*(1+z^n)+sumAbs l*(1+z^n):=by show (absQ a+sumAbs l)*_=_;grind
  rw[es]
  constructor<;>grind
theorem evL_rep (z:Rat):∀k:Nat,Pol.evL (List.replicate k 0++[1]) z=z^k
 | 0=>by show (1:Rat)+z*0=_;rw[Rat.mul_zero,Rat.add_zero,Rat.pow_zero]
 | k+1=>by
  show (0:Rat)+z*Pol.evL (List.replicate k 0++[1]) z=_
  rw[evL_rep z k,Rat.zero_add,Rat.pow_succ,Rat.mul_comm]
theorem one_ev {n:Nat} (h:1≤n) (z:Rat):Pol.evL (oneL n) z=1+z^n:=by
 show (1:Rat)+z*Pol.evL (List.replicate (n - 1) 0++[1]) z=_
 rw[evL_rep,Rat.mul_comm,← Rat.pow_succ,show n - 1+1=n by omega]
theorem bwA_near {n:Nat} (h1:1≤n) (h8:n≤8) {z:Rat} (hz:0≤z):(bwA n z - (1+z^n))*(u2 34:Rat)≤1+z^n ∧ -(1+z^n)≤(bwA n z - (1+z^n))*(u2 34:Rat):=by
 have h:=List.all_eq_true.1 err_all (n - 1) (List.mem_range.2 xq)
 rw[show n - 1+1=n by omega,show n - 1+2=n+1 by omega,Bool.and_eq_true] at h
 have hs:=qyt h.1
 have hl:=qyt h.2
 have ho:(oneL n).length=n+1:=by unfold oneL;simp;omega
 have e:Pol.evL (bwF n) z=Pol.evL (oneL n) z+Pol.evL (errL n) z:=by
  rw[← evL_add']
  refine Pol.evL_congr (fun i=>?_) z
  rw[addQ_co]
  by_cases c:i<n+1
  ·have:co (errL n) i=co (bwF n) i - co (oneL n) i:=by
    unfold errL
    show ((List.range (n+1)).map _).getD i 0=_
    rw[qyg,List.getElem?_map,List.getElem?_range c];rfl
   rw[this];grind
  rw[co_ge (l:=bwF n) xq,co_ge (l:=oneL n) xq,co_ge (l:=errL n) (by unfold errL;simp;omega)];grind
 rw[bwA_ev h8,e,one_ev h1]
 have k:=ev_small hz (n:=n) (errL n) 0 (by unfold errL;simp)
 rw[Rat.pow_zero,Rat.one_mul] at k
 have hU:=castI_pos (u2_pos 34)
 have hp:0≤1+z^n:=by have:=(pw_le hz (Nat.le_refl n)).2;grind
 have g:=Rat.mul_le_mul_of_nonneg_right hs hp
 have k1:=Rat.mul_le_mul_of_nonneg_right k.1 (Rat.le_of_lt hU)
 have k2:=Rat.mul_le_mul_of_nonneg_right k.2 (Rat.le_of_lt hU)
 constructor<;>grind
noncomputable def bwD (n:Nat) (a p:Rat):Nat→Rat
 | 0=>1
 | k+1=>bwD n a p k*(a*a - 2*bwT n k*(a*p)+p*p)
noncomputable def bwE (n:Nat) (a p:Rat):Rat:=if n%2=1 then bwD n a p (n / 2)*(a+p) else bwD n a p (n / 2)
theorem bwD_eq {n:Nat} {a p:Rat} (hp:p≠0):∀k:Nat,bwD n a p k=p^(2*k)*bwP n (a / p) k
 | 0=>by show (1:Rat)=p^0*1;rw[Rat.pow_zero,Rat.one_mul]
 | k+1=>by
  rw[bwD,bwP,bwD_eq hp k,show 2*(k+1)=2*k+1+1 from rfl,Rat.pow_succ,Rat.pow_succ]
  have:a=a / p*p:=by rw[Rat.div_def,Rat.mul_assoc,Rat.inv_mul_cancel _ hp,Rat.mul_one]
  generalize a / p=z at *
  subst this
  grind
theorem bwE_eq {n:Nat} {a p:Rat} (hp:p≠0):bwE n a p=p^n*bwA n (a / p):=by
 unfold bwE bwA
 rw[bwD_eq hp]
 have:a=a / p*p:=by rw[Rat.div_def,Rat.mul_assoc,Rat.inv_mul_cancel _ hp,Rat.mul_one]
 split
 ·rename_i c
  rw[show n=2*(n / 2)+1 by omega,Rat.pow_succ,show (2*(n / 2)+1) / 2=n / 2 by omega]
  generalize a / p=z at *
  subst this
  grind
 rename_i c
 rw[show 2*(n / 2)=n by omega]
theorem pow_mul' (x y:Rat):∀n:Nat,(x*y)^n=x^n*y^n
 | 0=>by rw[Rat.pow_zero,Rat.pow_zero,Rat.pow_zero,Rat.one_mul]
 | n+1=>by rw[Rat.pow_succ,Rat.pow_succ,Rat.pow_succ,pow_mul' x y n];grind
theorem pow_nn {x:Rat} (h:0≤x) (n:Nat):0≤x^n:=(pw_le h (Nat.le_refl n)).2
theorem pow_mono {x y:Rat} (h:0≤x) (k:x≤y):∀n:Nat,x^n≤y^n
 | 0=>by rw[Rat.pow_zero,Rat.pow_zero];exact Rat.le_refl
 | n+1=>by
  rw[Rat.pow_succ,Rat.pow_succ]
  exact mulm (pow_mono h k n) k (pow_nn h n) h
theorem root_near {q:Rat} {n:Nat} (h1:1≤n) (h8:n≤8) (hq:1 / 4≤q):gr 40 (rtN q n 40:Int)^n≤q∧(q - gr 40 (rtN q n 40:Int)^n)*(u2 33:Rat)≤gr 40 (rtN q n 40:Int)^n∧0<gr 40 (rtN q n 40:Int):=by
 obtain ⟨a,b,_⟩:=rt_tight (q:=q) (n:=n) (k:=40) (by grind) h1
 have hb:q≤gr 40 ((rtN q n 40:Int)+1)^n:=Rat.le_trans b (pow_mono (gr_nn (by unfold rtH;split<;>omega)) (gr_mono (by unfold rtH;split<;>omega)) n)
 have h8':gr 40 (u2 37)=1 / 8:=by decide +kernel
 have hlow:(u2 37:Int)≤(rtN q n 40:Int):=Int.not_lt.1 fun hc=>by
  have h2:gr 40 ((rtN q n 40:Int)+1)≤gr 40 (u2 37):=gr_mono xq
  have h3:=pow_mono (gr_nn (w:=40) (a:=(rtN q n 40:Int)+1) xq) h2 n
  rw[h8'] at h3
  have h4:(1 / 8:Rat)^n≤1 / 8:=by
   obtain ⟨m,rfl⟩:∃m,n=m+1:=⟨n - 1,by omega⟩
   rw[Rat.pow_succ]
   have:(1 / 8:Rat)^m≤1:=by
    have:∀m:Nat,(1 / 8:Rat)^m≤1:=fun m=>by
     induction m with
     | zero=>rw[Rat.pow_zero];decide
     | succ m ih=>rw[Rat.pow_succ];grind
    exact this m
   grind
  have:(1 / 4:Rat)≤1 / 8:=Rat.le_trans hq (Rat.le_trans hb (Rat.le_trans h3 h4))
  exact absurd this (by decide +kernel)
 have hr8:1 / 8≤gr 40 (rtN q n 40:Int):=by rw[← h8'];exact gr_mono hlow
 have hs:gr 40 ((rtN q n 40:Int)+1)≤gr 40 (rtN q n 40:Int)*(1+gr 37 1):=by
  have e1:gr 40 ((rtN q n 40:Int)+1)=gr 40 (rtN q n 40:Int)+gr 40 1:=by rw[gr_add]
  have e2:gr 40 1=(1 / 8)*gr 37 1:=by decide +kernel
  have e3:=Rat.mul_le_mul_of_nonneg_right hr8 (gr_nn (w:=37) (a:=1) yq)
  rw[e1,e2];grind
 have hpos:0<gr 40 (rtN q n 40:Int):=by grind
 have h9:=pow_mono (gr_nn (w:=40) (a:=(rtN q n 40:Int)+1) xq) hs n
 rw[pow_mul'] at h9
 have h10:(1+gr 37 1)^n≤1+gr 33 1:=by
  have hm:(1+gr 37 1)^n≤(1+gr 37 1)^8:=by
   obtain ⟨d,e⟩:∃d,8=n+d:=⟨8 - n,by omega⟩
   rw[e]
   have:∀d:Nat,(1+gr 37 1)^n≤(1+gr 37 1)^(n+d):=fun d=>by
    induction d with
    | zero=>exact Rat.le_refl
    | succ d ih =>
     rw[show n+(d+1)=n+d+1 from rfl,Rat.pow_succ]
     have h0:=pow_nn (x:=1+gr 37 1) (by have:=gr_nn (w:=37) (a:=1) yq;grind) (n+d)
     have:=Rat.mul_le_mul_of_nonneg_left (show 1≤1+gr 37 1 by have:=gr_nn (w:=37) (a:=1) yq;grind) h0
     grind
   exact this d
  exact Rat.le_trans hm (by decide +kernel)
 refine ⟨a,?_,hpos⟩
 have h11:=Rat.mul_le_mul_of_nonneg_left h10 (pow_nn (Rat.le_of_lt hpos) n)
 have h12:q - gr 40 (rtN q n 40:Int)^n≤gr 40 (rtN q n 40:Int)^n*gr 33 1:=by
  have:=Rat.le_trans hb h9
  grind
 have h13:=Rat.mul_le_mul_of_nonneg_right h12 (Rat.le_of_lt (castI_pos (u2_pos 33)))
 rw[Rat.mul_assoc,gr_mul] at h13
 rw[show ((1:Int):Rat)=1 from rfl,Rat.mul_one] at h13
 exact h13
theorem bw_gap {n:Nat} (h1:1≤n) (h8:n≤8) {q c m p:Rat} (hq:1 / 4≤q) (hc:0≤c) (hm:0≤m) (hp:0<p) :
  (bwE n (c*gr 40 (rtN q n 40:Int)*m) p - (p^n+q*(c*m)^n))*(u2 30:Rat)≤p^n+q*(c*m)^n ∧ -(p^n+q*(c*m)^n)≤(bwE n (c*gr 40 (rtN q n 40:Int)*m) p - (p^n+q*(c*m)^n))*(u2 30:Rat):=by
 obtain ⟨r1,r2,r3⟩:=root_near h1 h8 hq
 generalize gr 40 (rtN q n 40:Int)=r at *
 have hpn:p≠0:=by grind
 rw[bwE_eq hpn]
 have hy:0≤c*m / p:=by rw[Rat.div_def];exact Rat.mul_nonneg (Rat.mul_nonneg hc hm) (Rat.le_of_lt (Rat.inv_pos.2 hp))
 have ez:c*r*m / p=r*(c*m / p):=by rw[Rat.div_def,Rat.div_def];grind
 have ey:c*m=c*m / p*p:=by rw[Rat.div_def,Rat.mul_assoc,Rat.inv_mul_cancel _ hpn,Rat.mul_one]
 rw[ez]
 generalize c*m / p=y at *
 rw[ey,pow_mul']
 have hz:0≤r*y:=Rat.mul_nonneg (Rat.le_of_lt r3) hy
 obtain ⟨k1,k2⟩:=bwA_near h1 h8 hz
 generalize bwA n (r*y)=B at *
 rw[pow_mul'] at k1 k2
 have hP:0<p^n:=by
  have:∀n:Nat,0<p^n:=fun n=>by
   induction n with
   | zero=>rw[Rat.pow_zero];decide
   | succ n ih=>rw[Rat.pow_succ];exact Rat.mul_pos ih hp
  exact this n
 have hY:=pow_nn hy n
 have hR:=pow_nn (Rat.le_of_lt r3) n
 generalize p^n=P at *
 generalize y^n=Y at *
 generalize r^n=R at *
 have e34:(u2 34:Rat)=16*(u2 30:Rat):=by decide +kernel
 have e33:(u2 33:Rat)=8*(u2 30:Rat):=by decide +kernel
 rw[e34] at k1 k2
 rw[e33] at r2
 have hU:(0:Rat)<(u2 30:Rat):=castI_pos (u2_pos 30)
 generalize (u2 30:Rat)=U at *
 have hRY:0≤R*Y:=Rat.mul_nonneg hR hY
 have hqY:R*Y≤q*Y:=Rat.mul_le_mul_of_nonneg_right r1 hY
 have g1:(q - R)*(8*U)*Y≤R*Y:=Rat.mul_le_mul_of_nonneg_right r2 hY
 have g0:0≤(q - R)*Y:=by grind
 have g0U:0≤(q - R)*Y*U:=Rat.mul_nonneg g0 (Rat.le_of_lt hU)
 -- without the factor P
 have t1:(B - (1+q*Y))*U≤1+q*Y:=by grind
 have t2 : -(1+q*Y)≤(B - (1+q*Y))*U:=by grind
 have s1:=Rat.mul_le_mul_of_nonneg_left t1 (Rat.le_of_lt hP)
 have s2:=Rat.mul_le_mul_of_nonneg_left t2 (Rat.le_of_lt hP)
 constructor<;>grind
end Nt
open Go.RowKit
theorem ratN_pow {u:World} {y1 y2:Sl} {q:Rat} {n K:Nat} (h1:NatN u y1 (q.num.natAbs^n) K) (h2:NatN u y2 (q.den^n) K) (hq:0≤q):RatN u ⟨false,y1,y2⟩ (q^n) K:=by
 have hn:0≤q.num:=Rat.num_nonneg.2 hq
 refine ⟨⟨?_,?_⟩,?_⟩
 ·rw[Rat.num_pow,decide_eq_false]
  exact Int.not_lt.2 (Int.pow_nonneg hn)
 ·rw[Rat.num_pow,Int.natAbs_pow];exact h1
 rw[Rat.den_pow];exact h2
theorem RatN.sign0 {u:World} {r:RL} {q:Rat} {K:Nat} (h:RatN u r q K) (hq:0≤q):r.s=false:=h.1.1.trans (decide_eq_false (Int.not_lt.2 (Rat.num_nonneg.2 hq)))
theorem k_raPow {u w:World} {r:RL} {q:Rat} {K n:Nat} (d:Dat u w) (hr:RatV u r q K) (hq:0≤q) (hn:n≤64) (hK:K≤10000):qyc 126 #[r.v,.int .i64 (n:Int)] w (Post u w fun v u'=>∃p:RL,v=.tuple #[p.v,.int .i64 0]∧RatN u' p (q^n) (n*K+K+1)):=by
 refine zzm Tryz.func126 rfl Tryz.ntmps126 Tryz.results126 d ?_
 refine sq9 (zzk 2 ⟨28,r.cs⟩ (zzk 4 ⟨28,zw3⟩ (zza 5 (zI 0) (zzb (zzd (sq9 (zza 11 (zI n) (zza 12 (zB (decide ((n:Int)<0))) (zyq 13 (x:=zB (decide ((n:Int)<0))) (zB false) (by rw[show (decide ((n:Int)<0))=false from decide_eq_false xq]) (zza 14 (zI n) ?_ (hw:=w1 2 false 13)))))))))))
 refine zza 15 (zB (decide ((64:Int)<(n:Int)))) ?_ (hw:=w1 2 false 13)
 refine zza 16 (zB (decide ((64:Int)<(n:Int)))) (zzb (zzu (b:=decide ((64:Int)<(n:Int))) xj (fun hb=>?_) (fun hb=>?_)))
 ·exact absurd hb (by rw[show (decide ((64:Int)<(n:Int)))=false from decide_eq_false xq];decide)
 clear hb
 refine zzs (zzp ?_)
 refine sq9 (zzi 18 (.v (r.v)) ty28 zze (zzg 19 84 _ fun _ _ al ao=>qym (k_ratTrim ao (hr.ext al) xq) ?_))
 rintro _ u15 g16 ⟨ac,rfl,ad⟩
 refine zzk 6 ⟨28,zw3⟩ (zzj ⟨28,ac.cs⟩ ty28 ?_)
 refine zzb (sq9 (zza 21 (.adr 6 0) (zza 22 (.adr 6 1) (zzi 23 (.v (ac.m.v)) ty24 zzl (zza 24 (zI n) (zzg 25 88 _ fun _ _ ae aj=>qym (k_natPow (n:=n) aj ((int_mag (RatN.num ad)).ext ae) xq xq) ?_))))))
 rintro _ u21 ai ⟨aa,rfl,an⟩
 refine zza 20 (.v (.tuple #[aa.v,.int .i64 0])) (zza 26 (.v (aa.v)) (zza 27 (zI 0) (zza 7 (.v (aa.v)) (zza 8 (zI 0) (zzb (sq9 (zza 29 (.adr 6 2) (zzi 30 (.v (ac.d.v)) ty24 zzl (zza 31 (zI n) (zzg 32 88 _ fun _ _ af ak=>qym (k_natPow (n:=n) ak ((RatN.den ad).ext (ae.t (ai.t af))) xq xq) ?_))))))))))
 rintro _ u27 ah ⟨ab,rfl,am⟩
 refine zza 28 (.v (.tuple #[ab.v,.int .i64 0])) (zza 33 (.v (ab.v)) (zza 34 (zI 0) (zza 9 (.v (ab.v)) (zza 10 (zI 0) (zzc 47 [(1,zI n),(4,.adr 4 0),(6,.adr 6 0),(7,.v (aa.v)),(9,.v (ab.v))] [(4,⟨28,zw3⟩),(6,⟨28,ac.cs⟩)] (sq9 (zza 35 (.adr 6 0) (zza 36 (.adr 6 0) (zzi 37 (zB ac.s) ty4 zzl (zyq 38 (x:=zB ac.s) (zB false) (by rw[show ac.s=false from (RatN.sign0 (ad.ext (ae.t (ai.t (af.t ah.ext)))) hq)]) (zzn 39 (uw 3 true false 38) ?_)))))))))))
 refine zzn 40 (uw 3 true false 38) (zzn 41 (uw 3 true false 38) (zza 42 (zB false) (zza 43 (.v (aa.v)) (zza 44 (.v (.agg #[.bool false,aa.v])) (zza 45 (.v (ab.v)) (zza 46 (.v (.agg #[.bool false,aa.v,ab.v])) (zzj ⟨28,[.bool false,aa.v,ab.v]⟩ ty28 ?_)))))))
 refine zza 5 (zI 0) (zzb (zzo (ret0 [.agg #[.bool false,aa.v,ab.v],.int .i64 0] ⟨zzr ty28 zze,zzq,trivial⟩ fun u31 ag=>?_)))
 exact ⟨⟨false,aa,ab⟩,rfl,ratN_pow (NatN.more (an.ext (af.t (ah.t ag))) xq) (NatN.more (am.ext ag) xq) hq⟩
theorem k_poPow8 {u w:World} {x:Sl} {l:List Rat} {K n D A:Nat} (d:Dat u w) (hx:PolV u x l K) (hs:Sm l D A) (hD:D≤2^A) (hl:l.length≤2) (hn:n≤8) (hA:A≤1000) (hK:K≤100):qyc 127 #[x.v,.int .i64 (n:Int)] w (Post u w fun v u'=>∃y:Sl,v=.tuple #[y.v,.int .i64 0]∧PolN u' y (Pol.npow (Pol.mk' l) n).l 253):=by
 have hlen:=hx.len
 have htl:=zzh l
 have hnb : -8≤(n:Int)*(((trimQ l).length:Int) - 1)∧(n:Int)*(((trimQ l).length:Int) - 1)≤8:=by
  obtain ⟨k,hk⟩:∃k,(trimQ l).length=k:=⟨_,rfl⟩
  rw[hk] at htl ⊢
  rcases (by omega:k=0∨k=1∨k=2) with rfl | rfl | rfl<;>omega
 have hdg:dg (n*(A+8))≤253:=by
  have h9:n*(A+8)≤8*1008:=Nat.mul_le_mul hn xq
  exact Nat.le_trans (dg_mono h9) yq
 refine zzm Tryz.func127 rfl Tryz.ntmps127 Tryz.results127 d ?_
 refine sq9 (zza 4 (.v (qyn)) (zza 5 (zI 0) (zzb (zzd (sq9 (zza 7 (zI n) (zza 8 (zB (decide ((n:Int)<0))) (zyq 9 (x:=zB (decide ((n:Int)<0))) (zB false) (by rw[show (decide ((n:Int)<0))=false from decide_eq_false xq]) (zza 10 (zI n) ?_ (hw:=w1 2 false 9))))))))))
 refine zza 11 (zB (decide ((48:Int)<(n:Int)))) ?_ (hw:=w1 2 false 9)
 refine zza 12 (zB (decide ((48:Int)<(n:Int)))) (zyq 13 (x:=zB (decide ((48:Int)<(n:Int)))) (zB false) (by rw[show (decide ((48:Int)<(n:Int)))=false from decide_eq_false xq]) (zza 14 (zI n) ?_ (hw:=w1 6 false 13)))
 refine zza 15 (.v (x.v)) ?_ (hw:=w1 6 false 13)
 refine zzg 16 168 _ (fun _ _ ak al=>qym (k_poDegree al (hx.ext ak) xq xk) ?_) (hw:=w1 6 false 13)
 rintro _ u14 an rfl
 refine zyq 17 (x:=zI (IntKind.i64.wrap (((n:Int)*(((trimQ l).length:Int) - 1))))) (zI (((n:Int)*(((trimQ l).length:Int) - 1)))) yw ?_ (hw:=w1 6 false 13)
 refine zza 18 (zB (decide ((192:Int)<((n:Int)*(((trimQ l).length:Int) - 1))))) ?_ (hw:=w1 6 false 13)
 refine zza 19 (zB (decide ((192:Int)<((n:Int)*(((trimQ l).length:Int) - 1))))) (zzb (zzu (b:=decide ((192:Int)<((n:Int)*(((trimQ l).length:Int) - 1)))) xj (fun hb=>?_) (fun hb=>?_)))
 ·exact absurd hb (by rw[show (decide ((192:Int)<((n:Int)*(((trimQ l).length:Int) - 1))))=false from decide_eq_false xq];decide)
 clear hb
 refine zzs (zzp ?_)
 refine sq9 (zzg 20 23 _ fun _ _ am ao=>qym (k_ratOf ao (z:=1) xq xq) ?_)
 rintro _ u20 ax ⟨ah,rfl,ay⟩
 refine zxx 21 ⟨28,ah.cs⟩ 1 (fun ab aj ae aq=>?_)
 have ac:PolN aj (⟨some ⟨ab,0,none⟩,1,1⟩:Sl) [((1:Int):Rat)] 2:=pol_lit (L:=[ah]) aq (rats1 (ay.ext ae)) rfl yq
 refine zza 6 (.v (.slice (some ⟨ab,0,none⟩) 1 1)) (zzb (zzd (sq9 (zza 22 (zI n) (zza 23 (zI 0) (zzb (zzt (zyn (I:=fun ai S' u'=>∃ (j:Nat) (xr:Sl),(ai=n - j)∧(j≤n)∧(S'=St.of 30 [(0,.v (x.v)),(6,.v (xr.v)),(22,zI n),(23,zI j)] [])∧(Ext aj u')∧(PolN u' xr (Pol.npow (Pol.mk' l) j).l (dg (n*(A+8))))) (fun m S u1 u2 e h=>by obtain ⟨j,xr,hm,p0,hS,hE,f0⟩:=h;exact ⟨j,xr,hm,p0,hS,hE.trans e,f0.ext e⟩) _ yk ⟨0,(⟨some ⟨ab,0,none⟩,1,1⟩:Sl),rfl,by omega,rfl,(Ext.refl _),(by have h9:PolN _ _ (Pol.npow (Pol.mk' l) 0).l _:=ac;exact PolN.fitS h9 ((hs.npow 0).more (by rw[Nat.zero_mul];exact Nat.zero_le _)) (pow_leN hD (Nat.zero_le _)))⟩ ?_))))))))
 rintro ai _ u28 ⟨j,xr,ap,hj,rfl,af,hF⟩
 have hlr:=hF.len
 have hlp:(Pol.npow (Pol.mk' l) j).l.length≤17:=by have h9:=Pol.npow_len (Pol.mk' l) j;have h8:j*(Pol.mk' l).len≤8*2:=Nat.mul_le_mul xq (Nat.le_trans (mk_len l) hl);change _≤_ at h9;unfold Pol.len at h9;unfold Pol.len at h8;omega
 refine sq9 (zza 24 (zB (decide ((j:Int)<(n:Int)))) (zzb (zzd (zzu (b:=decide ((j:Int)<(n:Int))) xj (fun aa=>?_) (fun aa=>?_)))))
 ·have qhb29:=qyt aa
  refine zzs (zzp ?_)
  refine zzd (zzt (zzf (zza 25 (.v (xr.v)) (zza 26 (.v (x.v)) (zzg 27 32 _ fun _ _ ad aw=>qym (k_poMul aw (hF.ext ad).raw (hx.ext (ak.t (an.t (am.t (ax.t (ae.trans (af.trans ad))))))) (Nat.le_trans (mlK_mono hlp hl hdg hK) (by decide +kernel)) (by have h9:=Nat.mul_le_mul (show (Pol.npow (Pol.mk' l) j).l.length+1≤18 by omega) hdg;omega) (by have h9:=Nat.mul_le_mul (show l.length+1≤3 by omega) hK;omega) xq xq) ?_)))))
  rintro _ u33 av ⟨ag,rfl,au⟩
  refine zza 6 (.v (ag.v)) (zzx ?_)
  refine zzp (zzf (qwi 28 ((j:Int)+1) (j+1:Nat) xz (zza 23 (zI (j+1:Nat)) (zzx ?_))))
  refine ⟨_,?_,_,by exact zzv _ _ _,j+1,ag,rfl,by omega,rfl,(af.t (ad.t av.ext)),(by have h9:PolN _ _ (Pol.npow (Pol.mk' l) (j+1)).l _:=(by rw[npow_l];exact au);exact PolN.fitS h9 ((hs.npow (j+1)).more (Nat.mul_le_mul xq xq)) (pow_leN hD xq))⟩
  omega
 have qhb29:=qyf aa
 refine zyc (zzp (sq9 (zza 29 (.v (xr.v)) (zza 4 (.v (xr.v)) (zza 5 (zI 0) (zzb (zzo (ret0 [xr.v,.int .i64 0] ⟨zzq,zzq,trivial⟩ fun u36 ar=>?_))))))))
 have hjn:j=n:=by omega
 refine ⟨xr,rfl,?_⟩
 have h9:=(hF.ext ar)
 rw[hjn] at h9
 exact PolN.more h9 hdg
theorem Nt.cmp_ge_f {x y:Rat} (h:x<y):decide ((0:Int)≤cmpQ x y)=false:=by unfold cmpQ;rw[if_pos h];rfl
theorem Nt.cmp_le_f {x y:Rat} (h:y<x):decide (cmpQ x y≤(0:Int))=false:=by rw[cmpQ_le];exact decide_eq_false (by grind)
theorem Nt.sg_le_f {x:Rat} (h:0<x):decide (sgQ x≤(0:Int))=false:=by
 have h9:=sgQ_gt x
 rw[decide_eq_true h] at h9
 exact decide_eq_false (by have:=qyt h9;omega)
theorem Nt.one_sub_ne {e:Rat} (h:e<((1:Int):Rat)):((1:Int):Rat) - e≠0:=by grind
theorem Nt.warp_pos {e:Rat} (h0:((-1:Int):Rat)<e) (h1:e<((1:Int):Rat)):0<(((1:Int):Rat)+e) / (((1:Int):Rat) - e):=by
 have a:(0:Rat)<((1:Int):Rat)+e:=by grind
 have b:(0:Rat)<((1:Int):Rat) - e:=by grind
 rw[Rat.div_def]
 exact Rat.mul_pos a (Rat.inv_pos.2 b)
theorem k_ptWrong {u w:World} {re r:RL} {e q:Rat} {K n:Nat} (d:Dat u w) (he:RatV u re e K) (hr:RatV u r q K) (he0:((-1:Int):Rat)<e) (he1:e<((1:Int):Rat)) (hq:0<q) (hK:K≤20) (h1:1≤n) (h8:n≤8):qyc 65 #[.int .i64 (n:Int),re.v,r.v] w (Post u w fun v _=>v=.int .i64 0):=by
 refine zzm Tryz.func65 rfl Tryz.ntmps65 Tryz.results65 d ?_
 refine sq9 (zzk 4 ⟨28,re.cs⟩ (zzk 5 ⟨28,r.cs⟩ (zza 6 (zI 0) (zzb (zzd (sq9 (zza 7 (zI n) (zza 8 (zB (decide ((n:Int)<1))) (zyq 9 (x:=zB (decide ((n:Int)<1))) (zB false) (by rw[show (decide ((n:Int)<1))=false from decide_eq_false xq]) (zza 10 (zI n) ?_ (hw:=w1 2 false 9)))))))))))
 refine zza 11 (zB (decide ((8:Int)<(n:Int)))) ?_ (hw:=w1 2 false 9)
 refine zza 12 (zB (decide ((8:Int)<(n:Int)))) (zzb (zzu (b:=decide ((8:Int)<(n:Int))) xj (fun hb=>?_) (fun hb=>?_)))
 ·exact absurd hb (by rw[show (decide ((8:Int)<(n:Int)))=false from decide_eq_false xq];decide)
 clear hb
 refine zzs (zzp ?_)
 refine zzd (zzd (zzz [0,0,3,7,15,31,31,127,255,511] [(0,[]),(1,[]),(2,[]),(3,[]),(4,[]),(5,[]),(6,[]),(7,[]),(8,[]),(9,[])] xj xj (zzi 13 (.v (re.v)) ty28 zze (zzg 14 23 _ fun _ _ ac ao=>qym (k_ratOf ao (z:=(-1)) xq xq) ?_))))
 rintro _ u15 ad ⟨r13,rfl,am⟩
 refine zzg 15 125 _ fun _ _ aa ai=>qym (k_ratCompare ai (he.ext (ac.t (ad.t aa))) (am.ext aa).raw xq xq) ?_
 rintro _ u19 ae rfl
 refine zza 16 (zB (decide ((cmpQ e (((-1):Int):Rat))≤0))) (zyq 17 (x:=zB (decide ((cmpQ e (((-1):Int):Rat))≤0))) (zB false) (by rw[show (decide ((cmpQ e (((-1):Int):Rat))≤0))=false from (cmp_le_f he0)]) (zzi 18 (.v (re.v)) ty28 zze ?_ (hw:=w1 4 false 17)))
 refine zzg 19 23 _ (fun _ _ af ap=>qym (k_ratOf ap (z:=1) xq xq) ?_) (hw:=w1 4 false 17)
 rintro _ u26 ag ⟨r24,rfl,ak⟩
 refine zzg 20 125 _ (fun _ _ ab aj=>qym (k_ratCompare aj (he.ext (ac.t (ad.t (aa.t (ae.t (af.t (ag.t ab))))))) (ak.ext ab).raw xq xq) ?_) (hw:=w1 4 false 17)
 rintro _ u30 an rfl
 refine zza 21 (zB (decide ((0:Int)≤(cmpQ e ((1:Int):Rat))))) ?_ (hw:=w1 4 false 17)
 refine zza 22 (zB (decide ((0:Int)≤(cmpQ e ((1:Int):Rat))))) (zzb (zzu (b:=decide ((0:Int)≤(cmpQ e ((1:Int):Rat)))) xj (fun hb=>?_) (fun hb=>?_)))
 ·exact absurd hb (by rw[show (decide ((0:Int)≤(cmpQ e ((1:Int):Rat))))=false from (cmp_ge_f he1)];decide)
 clear hb
 refine zzs (zzp ?_)
 refine zzd (sq9 (zzi 23 (.v (r.v)) ty28 zze (zzg 24 29 _ fun _ _ al ah=>qym (k_ratSign ah (hr.ext (ac.t (ad.t (aa.t (ae.t (af.t (ag.t (ab.t (an.t al)))))))))) ?_)))
 rintro _ u34 g35 rfl
 refine zza 25 (zB (decide ((sgQ q)≤0))) (zzb (zzu (b:=decide ((sgQ q)≤0)) xj (fun hb=>?_) (fun hb=>?_)))
 ·exact absurd hb (by rw[show (decide ((sgQ q)≤0))=false from (sg_le_f hq)];decide)
 clear hb
 refine zzs (zzp ?_)
 refine sq9 (zza 6 (zI 0) (zzb (zzo (ret0 [.int .i64 0] ⟨zzq,trivial⟩ fun u37 e38=>?_))))
 rfl
theorem k_ptWrong0 {u w:World} {re r:RL} (d:Dat u w):qyc 65 #[.int .i64 0,re.v,r.v] w (Post u w fun v _=>v=.int .i64 12):=by
 refine zzm Tryz.func65 rfl Tryz.ntmps65 Tryz.results65 d ?_
 refine sq9 (zzk 4 ⟨28,re.cs⟩ (zzk 5 ⟨28,r.cs⟩ (zza 6 (zI 0) (zzb (zzd (sq9 (zza 7 (zI 0) (zza 8 (zB true) (zza 9 (zB true) (zzn 10 (uw 2 false true 9) (zzn 11 (uw 2 false true 9) ?_)))))))))))
 refine zza 12 (zB true) (zzb (zyr xj (sq9 (zza 6 (zI 12) (zzb (zzo (zzw (ret0 [.int .i64 12] ⟨zzq,trivial⟩ fun u11 e12=>?_))))))))
 rfl
theorem k_ptWarp {u w:World} {re:RL} {e:Rat} {K:Nat} (d:Dat u w) (he:RatV u re e K) (he1:e<((1:Int):Rat)) (hK:K≤20):qyc 67 #[re.v] w (Post u w fun v u'=>∃p:RL,v=p.v∧RatN u' p ((((1:Int):Rat)+e) / (((1:Int):Rat) - e)) 100):=by
 refine zzm Tryz.func67 rfl Tryz.ntmps67 Tryz.results67 d ?_
 refine sq9 (zzk 1 ⟨28,re.cs⟩ (zzk 2 ⟨28,zw3⟩ (zzb (zzd (zzz [0,0,3,7,0,31,63,127,255,255,0,1535,4095] [(1,[]),(4,[]),(10,[]),(0,[]),(2,[]),(3,[]),(5,[]),(6,[]),(7,[]),(8,[]),(9,[]),(11,[]),(12,[])] xj xj (zzi 7 (.v (re.v)) ty28 zze (zzi 10 (.v (re.v)) ty28 zze (zzk 3 ⟨28,zw3⟩ (zzg 6 23 _ fun _ _ ad aj=>qym (k_ratOf aj (z:=1) xq xq) ?_)))))))))
 rintro _ u14 ae ⟨r12,rfl,ai⟩
 refine zzg 8 25 _ fun _ _ ab al=>qym (k_ratAdd al (ai.ext ab).raw (he.ext (ad.t (ae.t ab))) xq xq) ?_
 rintro _ u20 av ⟨r18,rfl,aw⟩
 refine zzg 9 23 _ fun _ _ ag aq=>qym (k_ratOf aq (z:=1) xq xq) ?_
 rintro _ u26 ah ⟨r24,rfl,an⟩
 refine zzg 11 26 _ fun _ _ ac am=>qym (k_ratSub am (an.ext ac).raw (he.ext (ad.t (ae.t (ab.t (av.t (ag.t (ah.t ac))))))) xq xq) ?_
 rintro _ u32 ap ⟨r30,rfl,ar⟩
 refine zzg 12 24 _ fun _ _ af ak=>qym (k_ratDiv1 ak (aw.ext (ag.t (ah.t (ac.t (ap.t af))))).raw (ar.ext af).raw (one_sub_ne he1) xq xq) ?_
 rintro _ u38 g39 ⟨aa,rfl,au⟩
 refine zza 5 (.v (.tuple #[aa.v,.int .i64 0])) (zza 13 (.v (aa.v)) (zza 14 (zI 0) (zzj ⟨28,aa.cs⟩ ty28 ?_)))
 refine zza 4 (zI 0) (zzb (sq9 (zzi 15 (.v (aa.v)) ty28 zze (zzj ⟨28,aa.cs⟩ ty28 ?_))))
 refine zzb (zzo (ret0 [aa.v] ⟨zzr ty28 zze,trivial⟩ fun u41 ao=>?_))
 exact ⟨aa,rfl,RatN.more (K:=((2+K+1)+(2+K+1))) (au.ext ao) xq⟩
theorem k_ptPower {u w:World} {r:RL} {q:Rat} {K n:Nat} (d:Dat u w) (hr:RatV u r q K) (hq:0≤q) (h8:n≤8) (hK:K≤100):qyc 66 #[r.v,.int .i64 (n:Int)] w (Post u w fun v u'=>∃p:RL,v=p.v∧RatN u' p (q^n) 1000):=by
 refine zzm Tryz.func66 rfl Tryz.ntmps66 Tryz.results66 d ?_
 refine sq9 (zzk 2 ⟨28,r.cs⟩ (zzk 4 ⟨28,zw3⟩ (zzb (sq9 (zzi 8 (.v (r.v)) ty28 zze (zza 9 (zI n) (zzg 10 126 _ fun _ _ ad ab=>qym (k_raPow (n:=n) ab (hr.ext ad) hq xq xq) ?_)))))))
 rintro _ u14 g15 ⟨aa,rfl,h13⟩
 replace h13:=RatN.more (L:=1000) h13 (by have h9:n*K≤8*K:=Nat.mul_le_mul_right _ h8;omega)
 refine zza 7 (.v (.tuple #[aa.v,.int .i64 0])) (zza 11 (.v (aa.v)) (zza 12 (zI 0) (zzk 5 ⟨28,zw3⟩ (zzj ⟨28,aa.cs⟩ ty28 ?_))))
 refine zza 6 (zI 0) (zzb (sq9 (zzi 13 (.v (aa.v)) ty28 zze (zzj ⟨28,aa.cs⟩ ty28 ?_))))
 refine zzb (zzo (ret0 [aa.v] ⟨zzr ty28 zze,trivial⟩ fun u17 ac=>?_))
 exact ⟨aa,rfl,(h13.ext ac)⟩
theorem Nt.sm_pm (z:Int) (h:z.natAbs≤1):Sm [((1:Int):Rat),(z:Rat)] 1 1:=by
 refine Sm.ofAll yq fun x hx=>?_
 have e1:(((1:Nat):Int):Rat)=1:=rfl
 rcases List.mem_cons.1 hx with rfl | hx
 ·exact ⟨1,by rw[e1,Rat.mul_one],by decide⟩
 rw[List.mem_singleton.1 hx]
 exact ⟨z,by rw[e1,Rat.mul_one],Nat.le_trans h yq⟩
theorem k_ptPlus {u w:World} {n:Nat} (d:Dat u w) (h8:n≤8):qyc 68 #[.int .i64 (n:Int)] w (Post u w fun v u'=>∃y:Sl,v=y.v∧PolN u' y (Pol.npow (Pol.mk' [((1:Int):Rat),(((1):Int):Rat)]) n).l 253):=by
 refine zzm Tryz.func68 rfl Tryz.ntmps68 Tryz.results68 d ?_
 refine sq9 (zza 2 (.v (qyn)) (zzb (sq9 (zzg 6 23 _ fun _ _ _ ak=>qym (k_ratOf ak (z:=1) xq xq) ?_))))
 rintro _ u14 g15 ⟨ae,rfl,ah⟩
 refine zzg 7 23 _ fun _ _ ai al=>qym (k_ratOf al (z:=1) xq xq) ?_
 rintro _ u20 aq ⟨af,rfl,ar⟩
 refine zxx 8 ⟨28,ae.cs++af.cs⟩ 2 (fun ag ap ac ao=>?_)
 have ab:PolN ap (⟨some ⟨ag,0,none⟩,2,2⟩:Sl) [((1:Int):Rat),((1:Int):Rat)] 2:=pol_lit (L:=[ae,af]) ao (rats2 (ah.ext (ai.t (aq.t ac))) (ar.ext ac)) rfl yq
 refine zza 9 (zI n) (zzg 10 127 _ fun _ _ an am=>qym (k_poPow8 (n:=n) am (ab.ext an).raw (sm_pm (1) yq) yq zv h8 yq yq) ?_)
 rintro _ u31 g32 ⟨aa,rfl,ad⟩
 have hly29:=ad.len
 refine zza 5 (.v (.tuple #[aa.v,.int .i64 0])) (zza 11 (.v (aa.v)) (zza 12 (zI 0) (zza 3 (.v (aa.v)) (zza 4 (zI 0) (zzb (sq9 (zza 13 (.v (aa.v)) (zza 2 (.v (aa.v)) (zzb (zzo (ret0 [aa.v] ⟨zzq,trivial⟩ fun u34 aj=>?_)))))))))))
 exact ⟨aa,rfl,(ad.ext aj)⟩
theorem k_ptMinus {u w:World} {n:Nat} (d:Dat u w) (h8:n≤8):qyc 69 #[.int .i64 (n:Int)] w (Post u w fun v u'=>∃y:Sl,v=y.v∧PolN u' y (Pol.npow (Pol.mk' [((1:Int):Rat),(((-1):Int):Rat)]) n).l 253):=by
 refine zzm Tryz.func69 rfl Tryz.ntmps69 Tryz.results69 d ?_
 refine sq9 (zza 2 (.v (qyn)) (zzb (sq9 (zzg 6 23 _ fun _ _ _ ak=>qym (k_ratOf ak (z:=1) xq xq) ?_))))
 rintro _ u14 g15 ⟨ae,rfl,ah⟩
 refine zzg 7 23 _ fun _ _ ai al=>qym (k_ratOf al (z:=(-1)) xq xq) ?_
 rintro _ u20 aq ⟨af,rfl,ar⟩
 refine zxx 8 ⟨28,ae.cs++af.cs⟩ 2 (fun ag ap ac ao=>?_)
 have ab:PolN ap (⟨some ⟨ag,0,none⟩,2,2⟩:Sl) [((1:Int):Rat),(((-1):Int):Rat)] 2:=pol_lit (L:=[ae,af]) ao (rats2 (ah.ext (ai.t (aq.t ac))) (ar.ext ac)) rfl yq
 refine zza 9 (zI n) (zzg 10 127 _ fun _ _ an am=>qym (k_poPow8 (n:=n) am (ab.ext an).raw (sm_pm (-1) yq) yq zv h8 yq yq) ?_)
 rintro _ u31 g32 ⟨aa,rfl,ad⟩
 have hly29:=ad.len
 refine zza 5 (.v (.tuple #[aa.v,.int .i64 0])) (zza 11 (.v (aa.v)) (zza 12 (zI 0) (zza 3 (.v (aa.v)) (zza 4 (zI 0) (zzb (sq9 (zza 13 (.v (aa.v)) (zza 2 (.v (aa.v)) (zzb (zzo (ret0 [aa.v] ⟨zzq,trivial⟩ fun u34 aj=>?_)))))))))))
 exact ⟨aa,rfl,(ad.ext aj)⟩
@[reducible] def PtV (g:RL) (y:Sl) (n:Int) (z:Sl):Value:=.agg #[.bool g.s,g.m.v,g.d.v,y.v,.int .i64 n,z.v]
theorem k_ptOne {u w:World} (d:Dat u w):qyc 70 #[] w (Post u w fun v u'=>∃y:Sl,v=y.v∧PolN u' y [((1:Int):Rat)] 5):=by
 refine zzm Tryz.func70 rfl Tryz.ntmps70 Tryz.results70 d ?_
 refine sq9 (zza 0 (.v (qyn)) (zzb (sq9 (zzg 1 23 _ fun _ _ _ ad=>qym (k_ratOf ad (z:=1) xq xq) ?_))))
 rintro _ u14 g15 ⟨ac,rfl,af⟩
 refine zxx 2 ⟨28,ac.cs⟩ 1 (fun aa ae ag ah=>?_)
 have ab:PolN ae (⟨some ⟨aa,0,none⟩,1,1⟩:Sl) [((1:Int):Rat)] 2:=pol_lit (L:=[ac]) ah (rats1 (af.ext ag)) rfl yq
 refine zza 0 (.v (.slice (some ⟨aa,0,none⟩) 1 1)) (zzb (zzo (ret0 [.slice (some ⟨aa,0,none⟩) 1 1] ⟨zzq,trivial⟩ fun u22 ai=>?_)))
 exact ⟨(⟨some ⟨aa,0,none⟩,1,1⟩:Sl),rfl,PolN.more (ab.ext ai) xq⟩
theorem Nt.pm_len {z:Int} {n:Nat} (h:n≤8):(Pol.npow (Pol.mk' [((1:Int):Rat),(z:Rat)]) n).l.length≤17:=by
 have h9:=Pol.npow_len (Pol.mk' [((1:Int):Rat),(z:Rat)]) n
 have h8:n*(Pol.mk' [((1:Int):Rat),(z:Rat)]).len≤8*2:=Nat.mul_le_mul h (mk_len _)
 unfold Pol.len at h9 h8
 omega
theorem k_ptButter {u w:World} {re r:RL} {e q:Rat} {K n:Nat} (d:Dat u w) (he:RatV u re e K) (hr:RatV u r q K) (he0:((-1:Int):Rat)<e) (he1:e<((1:Int):Rat)) (hq:0<q) (hK:K≤20) (h1:1≤n) (h8:n≤8):qyc 22 #[.int .i64 (n:Int),re.v,r.v] w (Post u w fun v _=>∃ (g:RL) (y:Sl) (z:Sl),v=.tuple #[PtV g y n z,.int .i64 0]):=by
 refine zzm Tryz.func22 rfl Tryz.ntmps22 Tryz.results22 d ?_
 refine sq9 (zzk 4 ⟨28,re.cs⟩ (zzk 5 ⟨28,r.cs⟩ (zzk 6 ⟨39,[.bool false,qyn,qyn,qyn,.int .i64 0,qyn]⟩ (zza 7 (zI 0) (zzb (zzd (sq9 (zza 11 (zI n) (zzi 12 (.v (re.v)) ty28 zze (zzi 13 (.v (r.v)) ty28 zze (zzg 14 65 _ fun _ _ ad aB=>qym (k_ptWrong aB (he.ext ad) (hr.ext ad) he0 he1 hq xq h1 h8) ?_)))))))))))
 rintro _ u12 ak rfl
 refine zza 8 (zI 0) (zzb (sq9 (zza 15 (zI 0) (zza 16 (zB false) (zzb (zys xj (zzs (zzp ?_))))))))
 refine zzd (zzz [0,0,2,0,14,31,0,127] [(0,[]),(1,[]),(3,[]),(6,[]),(2,[]),(4,[]),(5,[]),(7,[])] xj xj (zzi 19 (.v (r.v)) ty28 zze (zzi 20 (.v (re.v)) ty28 zze (zza 22 (zI n) (zzk 9 ⟨28,zw3⟩ (zzg 21 67 _ fun _ _ ap aD=>qym (k_ptWarp aD (he.ext (ad.t (ak.t ap))) he1 xq) ?_))))))
 rintro _ u18 au ⟨r16,rfl,aC⟩
 refine zzg 23 66 _ fun _ _ aj aE=>qym (k_ptPower (n:=n) aE (aC.ext aj).raw (Rat.le_of_lt (warp_pos he0 he1)) h8 xq) ?_
 rintro _ u24 aA ⟨r22,rfl,aK⟩
 refine zzg 24 28 _ fun _ _ an aM=>qym (k_ratMul aM (hr.ext (ad.t (ak.t (ap.t (au.t (aj.t (aA.t an))))))) (aK.ext an).raw xq xq) ?_
 rintro _ u30 g31 ⟨aq,rfl,ay⟩
 refine zzj ⟨28,aq.cs⟩ ty28 ?_
 refine zzb (zzd (zzz [0,1,0,7,0,31,63,127] [(0,[]),(2,[]),(4,[]),(1,[]),(3,[]),(5,[]),(6,[]),(7,[])] xj xj (zza 25 (zI n) (zza 27 (zI n) (zzi 29 (.v (aq.v)) ty28 zze (zzg 26 68 _ fun _ _ aJ av=>qym (k_ptPlus (n:=n) av h8) ?_))))))
 rintro _ u36 ax ⟨y34,rfl,am⟩
 have hly34:=am.len
 have ah:(Pol.npow (Pol.mk' [((1:Int):Rat),(((1):Int):Rat)]) n).l.length≤17:=pm_len h8
 refine zzg 28 69 _ fun _ _ ai aI=>qym (k_ptMinus (n:=n) aI h8) ?_
 rintro _ u42 al ⟨y40,rfl,ag⟩
 have hly40:=ag.len
 have af:(Pol.npow (Pol.mk' [((1:Int):Rat),(((-1):Int):Rat)]) n).l.length≤17:=pm_len h8
 refine zzg 30 31 _ fun _ _ ae aF=>qym (k_poScale aF (ag.ext ae).raw (ay.ext (aJ.t (ax.t (ai.t (al.t ae))))).raw xq (Nat.le_trans (pm_len h8) yq) xq) ?_
 rintro _ u48 aG ⟨y46,rfl,aH⟩
 refine zzg 31 33 _ fun _ _ ao aL=>qym (k_poAdd aL (am.ext (ai.t (al.t (ae.t (aG.t ao))))).raw (aH.ext ao).raw xq xq (Nat.le_trans (pm_len h8) yq) (Nat.le_trans (zzh _) (by rw[List.length_map];exact Nat.le_trans (pm_len h8) yq))) ?_
 rintro _ u54 g55 ⟨ab,rfl,h53⟩
 refine zza 10 (.v (ab.v)) (zzb (sq9 (zzg 32 23 _ fun _ _ _ ar=>qym (k_ratOf ar (z:=1) xq xq) ?_)))
 rintro _ u60 g61 ⟨aa,rfl,h59⟩
 refine zzg 33 70 _ fun _ _ _ aw=>qym (k_ptOne aw) ?_
 rintro _ u66 g67 ⟨ac,rfl,h65⟩
 refine zza 34 (zI n) (zza 35 (.v (ab.v)) (zza 36 (.v (.agg #[.bool aa.s,aa.m.v,aa.d.v,ac.v,.int .i64 n,ab.v])) (zzj ⟨39,aa.cs++[ac.v,.int .i64 n,ab.v]⟩ ty39 ?_)))
 refine zza 7 (zI 0) (zzc 37 [(6,.adr 6 0),(7,zI 0)] [(6,⟨39,aa.cs++[ac.v,.int .i64 n,ab.v]⟩)] (zzo (ret0 [.agg #[.bool aa.s,aa.m.v,aa.d.v,ac.v,.int .i64 n,ab.v],.int .i64 0] ⟨zzr ty39 zze,zzq,trivial⟩ fun u69 e70=>?_)))
 exact ⟨aa,ac,ab,rfl⟩
theorem k_ptButter0 {u w:World} {re r:RL} (d:Dat u w):qyc 22 #[.int .i64 0,re.v,r.v] w (Post u w fun v _=>v=.tuple #[PtV ⟨false,⟨none,0,0⟩,⟨none,0,0⟩⟩ ⟨none,0,0⟩ 0 ⟨none,0,0⟩,.int .i64 12]):=by
 refine zzm Tryz.func22 rfl Tryz.ntmps22 Tryz.results22 d ?_
 refine sq9 (zzk 4 ⟨28,re.cs⟩ (zzk 5 ⟨28,r.cs⟩ (zzk 6 ⟨39,[.bool false,qyn,qyn,qyn,.int .i64 0,qyn]⟩ (zza 7 (zI 0) (zzb (zzd (sq9 (zza 11 (zI 0) (zzi 12 (.v (re.v)) ty28 zze (zzi 13 (.v (r.v)) ty28 zze (zzg 14 65 _ fun _ _ _ aa=>qym (k_ptWrong0 (re:=re) (r:=r) aa) ?_)))))))))))
 rintro _ u12 g13 rfl
 refine zza 8 (zI 12) (zzb (sq9 (zza 15 (zI 12) (zza 16 (zB true) (zzb (zyr xj (sq9 (zza 17 (.v (.agg #[.bool false,qyn,qyn,qyn,.int .i64 0,qyn])) (zza 18 (zI 12) (zzj ⟨39,[.bool false,qyn,qyn,qyn,.int .i64 0,qyn]⟩ ty39 ?_))))))))))
 refine zza 7 (zI 12) (zzb (zzo (zzw (ret0 [.agg #[.bool false,qyn,qyn,qyn,.int .i64 0,qyn],.int .i64 12] ⟨zzr ty39 zze,zzq,trivial⟩ fun u15 e16=>?_))))
 rfl
theorem k_bcCheck {u w:World} {re r:RL} {e q:Rat} {K n:Nat} (d:Dat u w) (he:RatV u re e K) (hr:RatV u r q K) (he0:((-1:Int):Rat)<e) (he1:e<((1:Int):Rat)) (hq:0<q) (hK:K≤20) (h1:1≤n) (h8:n≤8):qyc 45 #[.int .i64 (n:Int),re.v,r.v] w (Post u w fun v _=>v=.int .i64 0):=by
 refine zzm Tryz.func45 rfl Tryz.ntmps45 Tryz.results45 d ?_
 refine sq9 (zzk 4 ⟨28,re.cs⟩ (zzk 5 ⟨28,r.cs⟩ (zza 6 (zI 0) (zzb (zzd (zzt (sq9 (zza 8 (zI n) (zza 9 (zB (decide ((n:Int)<1))) (zyq 10 (x:=zB (decide ((n:Int)<1))) (zB false) (by rw[show (decide ((n:Int)<1))=false from decide_eq_false xq]) (zza 11 (zI n) ?_ (hw:=w1 2 false 10))))))))))))
 refine zza 12 (zB (decide ((8:Int)<(n:Int)))) ?_ (hw:=w1 2 false 10)
 refine zza 13 (zB (decide ((8:Int)<(n:Int)))) (zza 7 (zB (decide ((8:Int)<(n:Int)))) (zzb (zzu (b:=decide ((8:Int)<(n:Int))) xj (fun hb=>?_) (fun hb=>?_))))
 ·exact absurd hb (by rw[show (decide ((8:Int)<(n:Int)))=false from decide_eq_false xq];decide)
 clear hb
 refine zzd (zzz [0,0,3,7,15,31,31,127,255,511,1023,2047,4095,8191,16383,32767] [(1,[]),(0,[]),(2,[]),(3,[]),(4,[]),(5,[]),(6,[]),(7,[]),(8,[]),(9,[]),(10,[]),(11,[]),(12,[]),(13,[]),(14,[]),(15,[])] xj xj (zzi 16 (.v (re.v)) ty28 zze (zzg 15 11 _ fun _ _ ac ao=>qym (k_rqOf ao (z:=(-1)) xq xq) ?_)))
 rintro _ u15 ad ⟨r13,rfl,al⟩
 refine zzg 17 114 _ fun _ _ aa ah=>qym (k_rqLess ah (al.ext aa).raw (he.ext (ac.t (ad.t aa))) xq xq) ?_
 rintro _ u19 ae rfl
 refine zza 18 (zB (!(decide ((((-1):Int):Rat)<e)))) (zyq 19 (x:=zB (!(decide ((((-1):Int):Rat)<e)))) (zB false) (by rw[show (!(decide ((((-1):Int):Rat)<e)))=false from (by rw[decide_eq_true he0];rfl)]) (zzi 20 (.v (re.v)) ty28 zze ?_ (hw:=w1 4 false 19)))
 refine zzg 21 11 _ (fun _ _ af ap=>qym (k_rqOf ap (z:=1) xq xq) ?_) (hw:=w1 4 false 19)
 rintro _ u26 ag ⟨r24,rfl,aj⟩
 refine zzg 22 114 _ (fun _ _ ab ai=>qym (k_rqLess ai (he.ext (ac.t (ad.t (aa.t (ae.t (af.t (ag.t ab))))))) (aj.ext ab).raw xq xq) ?_) (hw:=w1 4 false 19)
 rintro _ u30 an rfl
 refine zza 23 (zB (!(decide (e<((1:Int):Rat))))) ?_ (hw:=w1 4 false 19)
 refine zza 24 (zB (!(decide (e<((1:Int):Rat))))) (zyq 25 (x:=zB (!(decide (e<((1:Int):Rat))))) (zB false) (by rw[show (!(decide (e<((1:Int):Rat))))=false from (by rw[decide_eq_true he1];rfl)]) (zzi 26 (.v (r.v)) ty28 zze ?_ (hw:=w1 10 false 25)))
 refine zzg 27 38 _ (fun _ _ ak am=>qym (k_rqSign am (hr.ext (ac.t (ad.t (aa.t (ae.t (af.t (ag.t (ab.t (an.t ak))))))))) xq) ?_) (hw:=w1 10 false 25)
 rintro _ u35 g36 rfl
 refine zza 28 (zB (decide ((sgQ q)≤0))) ?_ (hw:=w1 10 false 25)
 refine zza 29 (zB (decide ((sgQ q)≤0))) (zza 14 (zB (decide ((sgQ q)≤0))) (zzb (zzu (b:=decide ((sgQ q)≤0)) xj (fun hb=>?_) (fun hb=>?_))))
 ·exact absurd hb (by rw[show (decide ((sgQ q)≤0))=false from (sg_le_f hq)];decide)
 clear hb
 refine zzs (zzp ?_)
 refine sq9 (zza 6 (zI 0) (zzb (zzo (ret0 [.int .i64 0] ⟨zzq,trivial⟩ fun u38 e39=>?_))))
 rfl
theorem k_bcCheck0 {u w:World} {re r:RL} (d:Dat u w):qyc 45 #[.int .i64 0,re.v,r.v] w (Post u w fun v _=>v=.int .i64 12):=by
 refine zzm Tryz.func45 rfl Tryz.ntmps45 Tryz.results45 d ?_
 refine sq9 (zzk 4 ⟨28,re.cs⟩ (zzk 5 ⟨28,r.cs⟩ (zza 6 (zI 0) (zzb (zzd (zzt (sq9 (zza 8 (zI 0) (zza 9 (zB true) (zza 10 (zB true) (zzn 11 (uw 2 false true 10) ?_)))))))))))
 refine zzn 12 (uw 2 false true 10) (zza 13 (zB true) (zza 7 (zB true) (zzb (zyr xj (sq9 (zza 6 (zI 12) (zzb (zzo (zyu (zzw (ret0 [.int .i64 12] ⟨zzq,trivial⟩ fun u11 e12=>?_)))))))))))
 rfl
theorem k_bcWarp {u w:World} {re:RL} {e:Rat} {K:Nat} (d:Dat u w) (he:RatV u re e K) (he1:e<((1:Int):Rat)) (hK:K≤20):qyc 48 #[re.v] w (Post u w fun v u'=>∃p:RL,v=p.v∧RatN u' p ((((1:Int):Rat)+e) / (((1:Int):Rat) - e)) 100):=by
 refine zzm Tryz.func48 rfl Tryz.ntmps48 Tryz.results48 d ?_
 refine sq9 (zzk 1 ⟨28,re.cs⟩ (zzk 2 ⟨28,zw3⟩ (zzb (zzd (zzz [0,0,3,7,0,31,63,127] [(1,[]),(4,[]),(0,[]),(2,[]),(3,[]),(5,[]),(6,[]),(7,[])] xj xj (zzi 4 (.v (re.v)) ty28 zze (zzi 7 (.v (re.v)) ty28 zze (zzg 3 11 _ fun _ _ ad aj=>qym (k_rqOf aj (z:=1) xq xq) ?_))))))))
 rintro _ u14 ae ⟨r12,rfl,ai⟩
 refine zzg 5 17 _ fun _ _ aa al=>qym (k_rqAdd al (ai.ext aa).raw (he.ext (ad.t (ae.t aa))) xq xq) ?_
 rintro _ u20 av ⟨r18,rfl,aw⟩
 refine zzg 6 11 _ fun _ _ ag aq=>qym (k_rqOf aq (z:=1) xq xq) ?_
 rintro _ u26 ah ⟨r24,rfl,an⟩
 refine zzg 8 19 _ fun _ _ ac am=>qym (k_rqSub am (an.ext ac).raw (he.ext (ad.t (ae.t (aa.t (av.t (ag.t (ah.t ac))))))) xq xq) ?_
 rintro _ u32 ap ⟨r30,rfl,ar⟩
 refine zzg 9 98 _ fun _ _ af ak=>qym (k_rqOver ak (aw.ext (ag.t (ah.t (ac.t (ap.t af))))).raw (ar.ext af).raw xq xq) ?_
 rintro _ u38 g39 ⟨ab,rfl,au⟩
 refine zzj ⟨28,ab.cs⟩ ty28 ?_
 refine zzb (zzo (ret0 [ab.v] ⟨zzr ty28 zze,trivial⟩ fun u41 ao=>?_))
 exact ⟨ab,rfl,RatN.more (K:=((2+K+2)+(2+K+2)+2)) (au.ext ao) xq⟩
theorem Nt.pm_trim {z:Int} (h:z≠0):trimQ [((1:Int):Rat),(z:Rat)]=[((1:Int):Rat),(z:Rat)]:=by
 have hz:(z:Rat)≠0:=by exact_mod_cast h
 simp[trimQ,hz]
theorem k_bcLinear {u w:World} {r1 r2:RL} {a b:Rat} {K:Nat} (d:Dat u w) (h1:RatN u r1 a K) (h2:RatN u r2 b K) (hK:K≤1000):qyc 115 #[r1.v,r2.v] w (Post u w fun v u'=>∃y:Sl,v=y.v∧PolN u' y (trimQ [a,b]) K):=by
 refine zzm Tryz.func115 rfl Tryz.ntmps115 Tryz.results115 d ?_
 refine sq9 (zzk 2 ⟨28,r1.cs⟩ (zzk 3 ⟨28,r2.cs⟩ (zza 4 (.v (qyn)) (zzb (sq9 (zzi 5 (.v (r1.v)) ty28 zze (zzi 6 (.v (r2.v)) ty28 zze (zxx 7 ⟨28,r1.cs++r2.cs⟩ 2 (fun ah af ad ae=>?_)))))))))
 have aa:PolN af (⟨some ⟨ah,0,none⟩,2,2⟩:Sl) [a,b] K:=pol_lit (L:=[r1,r2]) ae (rats2 (h1.ext ad) (h2.ext ad)) rfl yq
 refine zzg 8 52 _ fun _ _ ag aj=>qym (k_r5Trim aj (aa.ext ag).raw xq zv) ?_
 rintro _ u19 g20 ⟨ab,rfl,ac⟩
 have hly17:=ac.len
 refine zza 4 (.v (ab.v)) (zzb (zzo (ret0 [ab.v] ⟨zzq,trivial⟩ fun u22 ai=>?_)))
 exact ⟨ab,rfl,(ac.ext ai)⟩
theorem k_bcPlus {u w:World} (d:Dat u w):qyc 50 #[] w (Post u w fun v u'=>∃y:Sl,v=y.v∧PolN u' y [((1:Int):Rat),(((1):Int):Rat)] 2):=by
 refine zzm Tryz.func50 rfl Tryz.ntmps50 Tryz.results50 d ?_
 refine sq9 (zza 0 (.v (qyn)) (zzb (sq9 (zzg 1 11 _ fun _ _ _ af=>qym (k_rqOf af (z:=1) xq xq) ?_))))
 rintro _ u14 g15 ⟨r12,rfl,ac⟩
 refine zzg 2 11 _ fun _ _ ad ag=>qym (k_rqOf ag (z:=1) xq xq) ?_
 rintro _ u20 aj ⟨r18,rfl,ak⟩
 refine zzg 3 115 _ fun _ _ ab ai=>qym (k_bcLinear (K:=2) ai (ac.ext (ad.t (aj.t ab))) (ak.ext ab) yq) ?_
 rintro _ u26 g27 ⟨aa,rfl,ah⟩
 refine zza 0 (.v (aa.v)) (zzb (zzo (ret0 [aa.v] ⟨zzq,trivial⟩ fun u29 ae=>?_)))
 refine ⟨aa,rfl,?_⟩
 have h9:=(ah.ext ae)
 rw[pm_trim yq] at h9
 exact h9
theorem k_bcMinus {u w:World} (d:Dat u w):qyc 47 #[] w (Post u w fun v u'=>∃y:Sl,v=y.v∧PolN u' y [((1:Int):Rat),(((-1):Int):Rat)] 2):=by
 refine zzm Tryz.func47 rfl Tryz.ntmps47 Tryz.results47 d ?_
 refine sq9 (zza 0 (.v (qyn)) (zzb (sq9 (zzg 1 11 _ fun _ _ _ af=>qym (k_rqOf af (z:=1) xq xq) ?_))))
 rintro _ u14 g15 ⟨r12,rfl,ac⟩
 refine zzg 2 11 _ fun _ _ ad ag=>qym (k_rqOf ag (z:=(-1)) xq xq) ?_
 rintro _ u20 aj ⟨r18,rfl,ak⟩
 refine zzg 3 115 _ fun _ _ ab ai=>qym (k_bcLinear (K:=2) ai (ac.ext (ad.t (aj.t ab))) (ak.ext ab) yq) ?_
 rintro _ u26 g27 ⟨aa,rfl,ah⟩
 refine zza 0 (.v (aa.v)) (zzb (zzo (ret0 [aa.v] ⟨zzq,trivial⟩ fun u29 ae=>?_)))
 refine ⟨aa,rfl,?_⟩
 have h9:=(ah.ext ae)
 rw[pm_trim yq] at h9
 exact h9
theorem k_bcPower {u w:World} {x:Sl} {l:List Rat} {K n D A:Nat} (d:Dat u w) (hx:PolV u x l K) (hs:Sm l D A) (hD:D≤2^A) (hl:l.length≤2) (hn:n≤8) (hA:A≤1000) (hK:K≤200):qyc 46 #[x.v,.int .i64 (n:Int)] w (Post u w fun v u'=>∃y:Sl,v=y.v∧PolN u' y (Pol.npow (Pol.mk' l) n).l 253):=by
 have hdg:dg (n*(A+8))≤253:=Nat.le_trans (dg_mono (show n*(A+8)≤8*1008 from Nat.mul_le_mul hn xq)) yq
 refine zzm Tryz.func46 rfl Tryz.ntmps46 Tryz.results46 d ?_
 refine sq9 (zza 4 (.v (qyn)) (zzb (sq9 (zzg 6 11 _ fun _ _ al an=>qym (k_rqOf an (z:=1) xq xq) ?_))))
 rintro _ u14 am ⟨ae,rfl,ak⟩
 refine zxx 7 ⟨28,ae.cs⟩ 1 (fun ab af aj ar=>?_)
 have ac:PolN af (⟨some ⟨ab,0,none⟩,1,1⟩:Sl) [((1:Int):Rat)] 2:=pol_lit (L:=[ae]) ar (rats1 (ak.ext aj)) rfl yq
 refine zza 5 (.v (.slice (some ⟨ab,0,none⟩) 1 1)) (zzb (zzd (zzt (zyn (I:=fun ah S' u'=>∃ (m:Nat) (j:Nat) (xr:Sl),(ah=m)∧(m+j=n)∧(S'=St.of 16 [(0,.v (x.v)),(1,zI m),(5,.v (xr.v))] [])∧(Ext af u')∧(PolN u' xr (Pol.npow (Pol.mk' l) j).l (dg (n*(A+8))))) (fun m S u1 u2 e h=>by obtain ⟨m,j,xr,hm,p0,hS,hE,f0⟩:=h;exact ⟨m,j,xr,hm,p0,hS,hE.trans e,f0.ext e⟩) _ yk ⟨n,0,(⟨some ⟨ab,0,none⟩,1,1⟩:Sl),rfl,by omega,rfl,(Ext.refl _),(by have h9:PolN _ _ (Pol.npow (Pol.mk' l) 0).l _:=ac;exact PolN.fitS h9 ((hs.npow 0).more (by rw[Nat.zero_mul];exact Nat.zero_le _)) (pow_leN hD (Nat.zero_le _)))⟩ ?_))))
 rintro ah _ u22 ⟨m,j,xr,av,hmj,rfl,ai,hF⟩
 have hlr:=hF.len
 have hlp:(Pol.npow (Pol.mk' l) j).l.length≤17:=by have h9:=Pol.npow_len (Pol.mk' l) j;have h8:j*(Pol.mk' l).len≤8*2:=Nat.mul_le_mul xq (Nat.le_trans (mk_len l) hl);change _≤_ at h9;unfold Pol.len at h9;unfold Pol.len at h8;omega
 refine zzd (sq9 (zza 8 (zI m) (zza 9 (zB (decide ((0:Int)<(m:Int)))) (zzb (zzu (b:=decide ((0:Int)<(m:Int))) xj (fun aa=>?_) (fun aa=>?_))))))
 ·have qhb23:=qyt aa
  refine zzs (zzp ?_)
  refine zzd (zzt (zzf (zza 12 (.v (xr.v)) (zza 13 (.v (x.v)) (zzg 14 42 _ fun _ _ ad ao=>qym (k_r5Mul ao (hF.ext ad).raw (hx.ext (al.t (am.t (aj.trans (ai.trans ad))))) (by have h9:=Nat.mul_le_mul (Nat.mul_le_mul hlp hl) (show (dg (n*(A+8)))+K+3≤500 by omega);unfold Nt.kk;omega) xq xq xq xq) ?_)))))
  rintro _ u27 ap ⟨ag,rfl,aq⟩
  refine zza 5 (.v (ag.v)) (zzx ?_)
  refine zzp (zzf (zza 10 (zI m) (qwi 11 ((m:Int) - 1) (m - 1:Nat) xz (zza 1 (zI (m - 1:Nat)) (zzx ?_)))))
  refine ⟨_,?_,_,by exact zzv _ _ _,m - 1,j+1,ag,rfl,by omega,rfl,(ai.t (ad.t ap.ext)),(by have h9:PolN _ _ (Pol.npow (Pol.mk' l) (j+1)).l _:=(by rw[npow_l];exact aq);exact PolN.fitS h9 ((hs.npow (j+1)).more (Nat.mul_le_mul xq xq)) (pow_leN hD xq))⟩
  omega
 have qhb23:=qyf aa
 refine zyc (zzp (sq9 (zza 15 (.v (xr.v)) (zza 4 (.v (xr.v)) (zzb (zzo (ret0 [xr.v] ⟨zzq,trivial⟩ fun u30 au=>?_)))))))
 have hjn:j=n:=by omega
 refine ⟨xr,rfl,?_⟩
 have h9:=(hF.ext au)
 rw[hjn] at h9
 exact PolN.more h9 hdg
theorem Nt.sm_mc {c:Rat} {D A:Nat} (hD:0<D) (h:Wh (c*((D:Int):Rat)) A):Sm (trimQ ([((1:Int):Rat),(((-1):Int):Rat)].map (· * c))) D A:=by
 refine Sm.trim (Sm.ofAll hD fun x hx=>?_)
 obtain ⟨z,e,hz⟩:=h
 simp only[List.map_cons,List.map_nil,List.mem_cons,List.mem_nil_iff,or_false] at hx
 rcases hx with rfl | rfl
 ·exact ⟨z,by rw[show ((1:Int):Rat)=1 from rfl,Rat.one_mul,e],hz⟩
 exact ⟨-z,by rw[Rat.mul_assoc,e,Rat.intCast_neg,Rat.intCast_neg,show ((1:Int):Rat)=1 from rfl,Rat.neg_mul,Rat.one_mul],by omega⟩
theorem Nt.mc_len {c:Rat}:(trimQ ([((1:Int):Rat),(((-1):Int):Rat)].map (· * c))).length≤2:=Nat.le_trans (zzh _) zv
theorem Nt.np_len {l:List Rat} {n:Nat} (hl:l.length≤2) (h:n≤8):(Pol.npow (Pol.mk' l) n).l.length≤17:=by
 have h9:=Pol.npow_len (Pol.mk' l) n
 have h8:n*(Pol.mk' l).len≤8*2:=Nat.mul_le_mul h (Nat.le_trans (mk_len l) hl)
 unfold Pol.len at h9 h8
 omega
theorem k_bcFlat {u w:World} {x:Sl} {n:Nat} (d:Dat u w):qyc 49 #[.int .i64 (n:Int),x.v] w (Post u w fun v _=>∃ (g:RL) (y:Sl),v=PtV g y n x):=by
 refine zzm Tryz.func49 rfl Tryz.ntmps49 Tryz.results49 d ?_
 refine sq9 (zzk 4 ⟨39,[.bool false,qyn,qyn,qyn,.int .i64 0,qyn]⟩ (zzb (sq9 (zzg 5 11 _ fun _ _ _ ad=>qym (k_rqOf ad (z:=1) xq xq) ?_))))
 rintro _ u14 g15 ⟨aa,rfl,h13⟩
 refine zzg 6 11 _ fun _ _ _ ae=>qym (k_rqOf ae (z:=1) xq xq) ?_
 rintro _ u20 g21 ⟨ac,rfl,aj⟩
 refine zxx 7 ⟨28,ac.cs⟩ 1 (fun ab ai af ag=>?_)
 have ah:PolN ai (⟨some ⟨ab,0,none⟩,1,1⟩:Sl) [((1:Int):Rat)] 2:=pol_lit (L:=[ac]) ag (rats1 (aj.ext af)) rfl yq
 refine zza 8 (zI n) (zza 9 (.v (x.v)) (zza 10 (.v (.agg #[.bool aa.s,aa.m.v,aa.d.v,.slice (some ⟨ab,0,none⟩) 1 1,.int .i64 n,x.v])) (zzj ⟨39,aa.cs++[.slice (some ⟨ab,0,none⟩) 1 1,.int .i64 n,x.v]⟩ ty39 ?_)))
 refine zzb (zzo (ret0 [.agg #[.bool aa.s,aa.m.v,aa.d.v,.slice (some ⟨ab,0,none⟩) 1 1,.int .i64 n,x.v]] ⟨zzr ty39 zze,trivial⟩ fun u28 e29=>?_))
 exact ⟨aa,(⟨some ⟨ab,0,none⟩,1,1⟩:Sl),rfl⟩
theorem k_bcButter {u w:World} {re r:RL} {e q:Rat} {K n D A:Nat} (d:Dat u w) (he:RatV u re e K) (hr:RatV u r q K) (he0:((-1:Int):Rat)<e) (he1:e<((1:Int):Rat)) (hq:0<q) (hK:K≤20) (h1:1≤n) (h8:n≤8) (hD0:0<D) (hc:Wh (((((1:Int):Rat)+e) / (((1:Int):Rat) - e))*((D:Int):Rat)) A) (hD:D≤2^A) (hA:A≤1000):qyc 10 #[.int .i64 (n:Int),re.v,r.v] w (Post u w fun v u'=>∃ (g:RL) (y:Sl) (z:Sl),v=.tuple #[PtV g y n z,.int .i64 0]∧PolN u' z (trimQ (addQ (Pol.npow (Pol.mk' [((1:Int):Rat),(((1):Int):Rat)]) n).l (trimQ ((Pol.npow (Pol.mk' (trimQ ([((1:Int):Rat),(((-1):Int):Rat)].map (· * ((((1:Int):Rat)+e) / (((1:Int):Rat) - e)))))) n).l.map (· * q))))) 1000):=by
 refine zzm Tryz.func10 rfl Tryz.ntmps10 Tryz.results10 d ?_
 refine sq9 (zzk 4 ⟨28,re.cs⟩ (zzk 5 ⟨28,r.cs⟩ (zzk 6 ⟨39,[.bool false,qyn,qyn,qyn,.int .i64 0,qyn]⟩ (zza 7 (zI 0) (zzb (zzd (sq9 (zza 10 (zI n) (zzi 11 (.v (re.v)) ty28 zze (zzi 12 (.v (r.v)) ty28 zze (zzg 13 45 _ fun _ _ ab aC=>qym (k_bcCheck aC (he.ext ab) (hr.ext ab) he0 he1 hq xq h1 h8) ?_)))))))))))
 rintro _ u12 ap rfl
 refine zza 8 (zI 0) (zzb (sq9 (zza 14 (zI 0) (zza 15 (zB false) (zzb (zys xj (zzs (zzp ?_))))))))
 refine zzd (zzz [0,0,3,7,0,31,63] [(1,[]),(4,[]),(0,[]),(2,[]),(3,[]),(5,[]),(6,[])] xj xj (zzi 19 (.v (re.v)) ty28 zze (zza 22 (zI n) (zzg 18 47 _ fun _ _ ar aD=>qym (k_bcMinus aD) ?_))))
 rintro _ u18 ai ⟨y16,rfl,aE⟩
 refine zzg 20 48 _ fun _ _ ad aF=>qym (k_bcWarp aF (he.ext (ab.t (ap.t (ar.t (ai.t ad))))) he1 xq) ?_
 rintro _ u24 ak ⟨r22,rfl,aP⟩
 refine zzg 21 39 _ fun _ _ ag aS=>qym (k_r5Scale aS (aE.ext (ad.t (ak.t ag))).raw (aP.ext ag).raw xq zv xq) ?_
 rintro _ u30 aM ⟨y28,rfl,aB⟩
 refine zzg 23 46 _ fun _ _ ao aw=>qym (k_bcPower (n:=n) aw (aB.ext ao).raw (sm_mc hD0 hc) hD mc_len h8 hA xq) ?_
 rintro _ u36 aA ⟨aj,rfl,aO⟩
 refine zza 9 (.v (aj.v)) (zzb (zzd (zzz [0,0,0,6,0,0,62,126,255,511,1023] [(0,[]),(2,[]),(4,[]),(5,[]),(1,[]),(3,[]),(6,[]),(7,[]),(8,[]),(9,[]),(10,[])] xj xj (zza 24 (zI n) (zza 26 (zI n) (zza 28 (.v (aj.v)) (zzi 29 (.v (r.v)) ty28 zze (zzg 25 50 _ fun _ _ am aJ=>qym (k_bcPlus aJ) ?_))))))))
 rintro _ u42 aq ⟨y40,rfl,av⟩
 refine zzg 27 46 _ fun _ _ ae aG=>qym (k_bcPower (n:=n) aG (av.ext ae).raw (sm_pm 1 yq) yq zv h8 yq xq) ?_
 rintro _ u48 al ⟨y46,rfl,aI⟩
 refine zzg 30 39 _ fun _ _ ah aQ=>qym (k_r5Scale aQ (aO.ext (am.t (aq.t (ae.t (al.t ah))))).raw (hr.ext (ab.t (ap.t (ar.t (ai.t (ad.t (ak.t (ag.t (aM.t (ao.t (aA.t (am.t (aq.t (ae.t (al.t ah))))))))))))))) xq (Nat.le_trans (np_len mc_len h8) yq) xq) ?_
 rintro _ u54 aR ⟨y52,rfl,aN⟩
 refine zzg 31 41 _ fun _ _ an au=>qym (k_r5Add au (aI.ext (ah.t (aR.t an))).raw (aN.ext an).raw xq xq (Nat.le_trans (np_len zv h8) yq) (Nat.le_trans (zzh _) (by rw[List.length_map];exact Nat.le_trans (np_len mc_len h8) yq))) ?_
 rintro _ u60 g61 ⟨ac,rfl,ay⟩
 refine zzg 32 49 _ fun _ _ aK ax=>qym (k_bcFlat (n:=n) (x:=ac) ax) ?_
 rintro _ u66 aL ⟨aa,af,rfl⟩
 refine zzj ⟨39,aa.cs++[af.v,.int .i64 n,ac.v]⟩ ty39 ?_
 refine zza 7 (zI 0) (zzb (zzo (ret0 [.agg #[.bool aa.s,aa.m.v,aa.d.v,af.v,.int .i64 n,ac.v],.int .i64 0] ⟨zzr ty39 zze,zzq,trivial⟩ fun u69 aH=>?_)))
 exact ⟨aa,af,ac,rfl,PolN.more (ay.ext (aK.t (aL.t aH))) xq⟩
theorem k_bcButter0 {u w:World} {re r:RL} (d:Dat u w):qyc 10 #[.int .i64 0,re.v,r.v] w (Post u w fun v _=>v=.tuple #[PtV ⟨false,⟨none,0,0⟩,⟨none,0,0⟩⟩ ⟨none,0,0⟩ 0 ⟨none,0,0⟩,.int .i64 12]):=by
 refine zzm Tryz.func10 rfl Tryz.ntmps10 Tryz.results10 d ?_
 refine sq9 (zzk 4 ⟨28,re.cs⟩ (zzk 5 ⟨28,r.cs⟩ (zzk 6 ⟨39,[.bool false,qyn,qyn,qyn,.int .i64 0,qyn]⟩ (zza 7 (zI 0) (zzb (zzd (sq9 (zza 10 (zI 0) (zzi 11 (.v (re.v)) ty28 zze (zzi 12 (.v (r.v)) ty28 zze (zzg 13 45 _ fun _ _ _ aa=>qym (k_bcCheck0 (re:=re) (r:=r) aa) ?_)))))))))))
 rintro _ u12 g13 rfl
 refine zza 8 (zI 12) (zzb (sq9 (zza 14 (zI 12) (zza 15 (zB true) (zzb (zyr xj (sq9 (zza 16 (.v (.agg #[.bool false,qyn,qyn,qyn,.int .i64 0,qyn])) (zza 17 (zI 12) (zzj ⟨39,[.bool false,qyn,qyn,qyn,.int .i64 0,qyn]⟩ ty39 ?_))))))))))
 refine zza 7 (zI 12) (zzb (zzo (zzw (ret0 [.agg #[.bool false,qyn,qyn,qyn,.int .i64 0,qyn],.int .i64 12] ⟨zzr ty39 zze,zzq,trivial⟩ fun u15 e16=>?_))))
 rfl
def setW (u:World) (b:Nat) (ob:Obj):World:={ u with heap:=u.heap.setIfInBounds b ob }
structure ExtF (F:List Nat) (u u':World):Prop where
 size:u.heap.size≤u'.heap.size
 vis:∀ (k:Nat) (o:Obj),k∉F→u.heap[k]? = some o→o≠hidO→u'.heap[k]? = some o
section
variable {P:Program} {ops:Array Oper} {w0:Base} {u0:World} {S T:St} {B:Tmp→Nat} {a:Act} {w w' u u' u'' v:World} {o:Oper} {p:List Tmp} {seq:Bool} {rest:List (Oper×List Tmp)} {K:St→World→Prop} {F:List Nat} {b:Nat} {ob:Obj}
theorem setW_size:(setW u b ob).heap.size=u.heap.size:=by simp[setW]
theorem setW_ne {k:Nat} (h:k≠b):(setW u b ob).heap[k]? = u.heap[k]? := by simp only[setW];rw[Array.getElem?_setIfInBounds_ne (Ne.symm h)]
theorem setW_eq (h:b<u.heap.size):(setW u b ob).heap[b]? = some ob:=by simp[setW,h]
theorem ExtF.pre {u2:World} (e:Ext u u') (h:ExtF F u' u2):ExtF F u u2:=⟨Nat.le_trans e.size h.size,fun k o hk ho hh=>h.vis k o hk (e.vis k o ho hh) hh⟩
theorem ExtF.toB (h:ExtF [b] u u'):ExtB b u u':=⟨h.size,fun k o hk ho hh=>h.vis k o (by simpa using hk) ho hh⟩
theorem GrowF.extF (h:GrowF F u u'):ExtF F u u':=⟨h.size,fun k o hk ho _=>(h.old k (zxa ho) hk).trans ho⟩
def MayB (w0:Base) (u0:World) (b:Nat):Prop:=u0.heap.size≤b∨b∈w0.free
theorem Rep.mut (h:Rep w0 u0 S B a w u) (hF:∀b∈F,MayB w0 u0 b∧∃ob,u.heap[b]? = some ob∧ob≠hidO) (hd:Dat u'' w') (hb:Bel ⟨w,none,F⟩ w') (hg:GrowF F u u''):Rep w0 u0 S B a w' u'':=by
 have hno:∀b∈F,b<u0.heap.size→b∈w0.free:=fun b hm hlt=>by
  rcases (hF b hm).1 with h1 | h1
  ·omega
  exact h1
 refine ⟨h.regs,h.wf,h.defers,fun t V hV=>?_,h.inj,hd,h.base,⟨Nat.le_trans h.grow.size hg.size,fun b hlt hf=>?_⟩,?_⟩
 ·obtain ⟨v1,v2,v3⟩:=h.var t V hV
  have hn:B t∉F:=fun hm=>by
   obtain ⟨_,ob,e1,e2⟩:=hF _ hm
   rw[v2] at e1;injection e1 with e1;exact e2 e1.symm
  exact ⟨by rw[hb.block _ (zxa v1) (fun t e=>by cases e) hn];exact v1,by rw[hg.old _ (zxa v2) hn];exact v2,v3⟩
 ·rw[hg.old b (Nat.lt_of_lt_of_le hlt h.grow.size) (fun hm=>hf (hno b hm hlt))]
  exact h.grow.old b hlt hf
 have hbs:=h.bel
 refine ⟨hb.os.trans hbs.os,hb.tape.trans hbs.tape,hb.output.trans hbs.output,Nat.le_trans hbs.size hb.size,fun k hk hl hf=>?_⟩
 rw[hb.block k (Nat.lt_of_lt_of_le hk hbs.size) (fun t e=>by cases e) (fun hm=>hf (hno k hm (by rw[h.base];exact hk)))]
 exact hbs.block k hk hl hf
def grownW (u w':World) (b g:Nat) (ob:Obj):World:=setW (setW (hide u w') b hidO) g ob
theorem grownW_size {g:Nat} (h:u.heap.size≤w'.heap.size):(grownW u w' b g ob).heap.size=w'.heap.size:=by unfold grownW;rw[setW_size,setW_size,zwp h]
theorem sy_dataF (d:Tmp) (V:Vr) (n:Nat) (k:∀b u1,Ext u u1→u1.heap[b]? = some (.cells V.cs.toArray V.ty (0,0))→u0.heap.size≤b→u.heap.size≤b→sym P ops w0 u0 true rest (S.set d (.v (.slice (some ⟨b,0,none⟩) n n))) u1 K)
  (hw:Wants ops o S:=by exact zwf xj) (hd:o.dst=some d:=by kernel_rfl) (hk:opK o.op≠2:=by decide) (hf:(freeB S d&&knownB S o)=true:=by kernel_rfl)
  (hrun:∀B w,(execOp (rho S B) o).run P w=.ok (.value (.slice (some ⟨w.heap.size,0,none⟩) n n)) (w.alloc (.cells V.cs.toArray V.ty)):=by intro _ _;kernel_rfl):sym P ops w0 u0 true ((o,p)::rest) S u K:=by
 simp only[Bool.and_eq_true] at hf
 refine .inr (.inr (.inl ⟨.inl rfl,fun B a w u' he hrep=>⟨hw B a hrep.regs,?_⟩⟩))
 unfold Oper.wp
 rw[exec_rho hrep.regs hf.2 hk,hrun B w]
 have hs:u'.heap.size=w.heap.size:=hrep.dat.size
 refine ⟨S.set d (.v (.slice (some ⟨w.heap.size,0,none⟩) n n)),B,u'.alloc (.cells V.cs.toArray V.ty),u'.alloc (.cells V.cs.toArray V.ty),?_,(fun e=>by cases e),(fun e=>by cases e),Ext.refl _,k _ _ (he.trans (zxu _ _).ext) (by rw[← hs];exact zxq _ _) (by rw[← hs];exact hrep.grow.size) (by rw[← hs];exact he.size)⟩
 rw[hd]
 exact (hrep.vis _).set (d:=some d) (x:=some (.v (.slice (some ⟨w.heap.size,0,none⟩) n n))) (fun t e=>by injection e with e;subst e;exact (zxy hd hf.1 d hd).1) (fun z e=>by injection e with e;rw[← e];rfl) (fun z t e ht=>by injection e with e;rw[← e] at ht;cases ht)
theorem zc_mem {z:Array Value} {n:Nat} {v:Value} (hz:0<z.size) (h:v∈(Builtin.zeroCells z n).toList):v∈z.toList:=by
 unfold Builtin.zeroCells at h
 rw[Array.toList_map,List.mem_map] at h
 obtain ⟨i,_,rfl⟩:=h
 have hi:=Nat.mod_lt i hz
 rw[getElem!_pos z (i%z.size) hi]
 simp
theorem app_all {T E:TypeId} {z:Value} {size bytes n cap m c g c1:Nat} {cs0 news:List Value} {ad:Addr} {ty:TypeId} {cs:Array Value} (q:Value→Prop) (hT:P.underlying T=some (.slice E)) (hi:(P.info? E).map (fun i=>(i.zero,i.size,i.bytes))=some (some z,size,bytes)) (hzs:z.cells.size=size) (hsz:0<size)
  (hub:w.heap[b]? = some (.cells cs0.toArray E (0,0))) (hn:n≤cap) (hcl:cs0.length=cap*size) (hl:news.length=m*size) (hnews:∀j x,news[j]? = some x→w.cell? (ad.add j)=some x) (h1:∀x∈news,x.oneCell'=true) (h63:n+m≤maxLen) (hbytes:(n+m)*bytes≤140737488355328)
  (hrun:(Builtin.append_ #[T,T] ty #[.slice (some ⟨b,0,none⟩) n cap,.slice (some ad) m c]).run P w=.ok (.slice (some ⟨g,0,none⟩) (n+m) c1) w') (hgv:w'.heap[g]? = some (.cells cs E (0,0))) (q0:∀v∈cs0,q v) (q1:∀v∈news,q v) (q2:∀v∈z.cells.toList,q v):∀v∈cs.toList,q v:=by
 obtain ⟨i,hi1,hz,hs,hby⟩:=info_parts hi
 have hle:n*size≤cs0.length:=by rw[hcl];exact Nat.mul_le_mul_right _ hn
 by_cases hroom:n+m≤cap
 ·have hr:=run_append_room (P:=P) w T ty E i hT hi1 b n cap cs0.toArray hub ad m c news (by rw[hs];exact hl) hnews h1 hroom (by rw[hs,hl,List.size_toArray,hcl,← Nat.add_mul];exact Nat.mul_le_mul_right _ hroom)
  rw[hrun] at hr
  injection hr with hv hw2
  injection hv with ha _ _
  injection ha with ha
  injection ha with hg _ _
  subst hg
  subst hw2
  rw[setRow_heap w g cs0.toArray _ E _ hub] at hgv
  injection hgv with hgv
  injection hgv with hgv _ _
  intro v hv
  rw[← hgv] at hv
  simp only[List.mem_append] at hv
  rcases hv with (hv | hv) | hv
  ·exact q0 v (List.mem_of_mem_take hv)
  ·exact q1 v hv
  exact q0 v (List.mem_of_mem_drop hv)
 have hr:=run_append_grow (P:=P) w T ty E i z hT hi1 hz ⟨b,0,none⟩ n cap (cs0.take (n*size)) (by rw[List.length_take,hs,Nat.min_eq_left hle]) (fun j x hx=>by
   rw[addr_add,Nat.zero_add,cell_of_row w b j cs0.toArray E (0,0) hub]
   rw[List.getElem?_take] at hx
   split at hx
   ·simpa using hx
   cases hx) ad m c news (by rw[hs];exact hl) hnews xq (by unfold maxLen at h63;omega) (growslice_fits xq (by rw[hby];exact hbytes))
 rw[hrun] at hr
 injection hr with hv hw2
 injection hv with ha _ _
 injection ha with ha
 injection ha with hg _ _
 subst hg
 subst hw2
 have h9:=zxq w.drew (.cells ((cs0.take (n*size)).toArray++news.toArray++Builtin.zeroCells z.cells (grownCap w (n+m) cap E - (n+m))) E)
 have h8:w.drew.heap.size=w.heap.size:=rfl
 rw[h8,hgv] at h9
 injection h9 with h9
 injection h9 with h9 _ _
 intro v hv
 rw[h9] at hv
 simp only[Array.toList_append,List.mem_append] at hv
 rcases hv with (hv | hv) | hv
 ·exact q0 v (List.mem_of_mem_take hv)
 ·exact q1 v hv
 exact q2 v (zc_mem xq hv)
theorem app_all0 {T E:TypeId} {z:Value} {size bytes m c g c1:Nat} {news:List Value} {ad:Addr} {ty:TypeId} {cs:Array Value} (q:Value→Prop) (hT:P.underlying T=some (.slice E)) (hi:(P.info? E).map (fun i=>(i.zero,i.size,i.bytes))=some (some z,size,bytes)) (hzs:z.cells.size=size) (hsz:0<size)
  (hl:news.length=m*size) (hnews:∀j x,news[j]? = some x→w.cell? (ad.add j)=some x) (hm:0<m) (h63:m≤maxLen) (hbytes:m*bytes≤140737488355328)
  (hrun:(Builtin.append_ #[T,T] ty #[qyn,.slice (some ad) m c]).run P w=.ok (.slice (some ⟨g,0,none⟩) m c1) w') (hgv:w'.heap[g]? = some (.cells cs E (0,0))) (q1:∀v∈news,q v) (q2:∀v∈z.cells.toList,q v):∀v∈cs.toList,q v:=by
 obtain ⟨i,hi1,hz,hs,hby⟩:=info_parts hi
 have hr:=run_append_nil (P:=P) w T ty E i z hT hi1 hz ad m c news (by rw[hs];exact hl) hnews hm (by unfold maxLen at h63;omega) (by rw[hby];omega)
 rw[hrun] at hr
 injection hr with hv hw2
 injection hv with ha _ _
 injection ha with ha
 injection ha with hg _ _
 subst hg
 subst hw2
 have h9:=zxq w.drew (.cells (news.toArray++Builtin.zeroCells z.cells (grownCap w m 0 E - m)) E)
 have h8:w.drew.heap.size=w.heap.size:=rfl
 rw[h8,hgv] at h9
 injection h9 with h9
 injection h9 with h9 _ _
 intro v hv
 rw[h9] at hv
 simp only[Array.toList_append,List.mem_append] at hv
 rcases hv with hv | hv
 ·exact q1 v hv
 exact q2 v (zc_mem xq hv)
theorem sy_appDp (d:Tmp) {T E:TypeId} {s x:Operand} {z:Value} {size bytes:Nat} {b2 off m c n cap:Nat} {cs0:List Value} (news:List Value) (hT:P.underlying T=some (.slice E)) (hi:(P.info? E).map (fun i=>(i.zero,i.size,i.bytes))=some (some z,size,bytes)) (hzs:z.cells.size=size) (hsz:0<size)
  (hl:news.length=m*size) (hnews:∀j v,news[j]? = some v→u.cell? ⟨b2,off+j,none⟩=some v) (h1:∀v∈news,v.oneCell'=true) (hm:0<m) (h63:n+m≤maxLen) (hbytes:(n+m)*bytes≤140737488355328)
  (hn:n≤cap) (hcap:cap≤maxLen) (hcl:cs0.length=cap*size) (hub:u.heap[b]? = some (.cells cs0.toArray E (0,0))) (hb:MayB w0 u0 b)
  (k:∀ (g c1:Nat) (cs:List Value) (u1:World),n+m≤c1→c1≤maxLen→cs.length=c1*size→cs.take ((n+m)*size)=cs0.take (n*size)++news→u1.heap[g]? = some (.cells cs.toArray E (0,0))→(g=b∨u.heap.size≤g)→ExtB b u u1→(∀q:Value→Prop,(∀v∈cs0,q v)→(∀v∈news,q v)→(∀v∈z.cells.toList,q v)→∀v∈cs,q v)→sym P ops w0 u0 true rest (S.set d (.v (.slice (some ⟨g,0,none⟩) (n+m) c1))) u1 K)
  (hw:Wants ops o S:=by exact zwf xj) (hd:o.dst=some d:=by kernel_rfl) (hop:o.op=.call { callee:=.builtin .append,args:=#[s,x],argTypes:=#[T,T] }:=by rfl) (hf:freeB S d=true:=by kernel_rfl)
  (hs:evO S s=some (.v (.slice (some ⟨b,0,none⟩) n cap)):=by rfl) (hx:evO S x=some (.v (.slice (some ⟨b2,off,none⟩) m c)):=by rfl):sym P ops w0 u0 true ((o,p)::rest) S u K:=by
 refine .inr (.inr (.inl ⟨.inl rfl,fun B a w u' he hrep=>⟨hw B a hrep.regs,?_⟩⟩))
 have hub':=he.cells hub
 have hwb:=hrep.dat.ext.cells hub'
 have hltu:=zxa hub'
 have hus:u'.heap.size=w.heap.size:=hrep.dat.size
 obtain ⟨g,c1,cs,w',hrun,hgv,k1,k2,k3,k4,k5,k6⟩:=run_app (P:=P) (u0:={ w with heap:=#[] }) (w:=w) (v:=.slice (some ⟨b,0,none⟩) n cap) (n:=n) (xs:=cs0.take (n*size)) (ad:=⟨b2,off,none⟩) (c:=c) hT hi hzs hsz
  ⟨by rw[List.length_take,hcl];exact Nat.min_eq_left (Nat.mul_le_mul_right _ hn),.inr ⟨b,cap,cs0.toArray,rfl,Nat.zero_le _,hwb,hn,hcap,by simpa using hcl,by simp⟩⟩ hl (fun j v hv=>by rw[addr_add];exact hrep.dat.ext.cell (he.cell (hnews j v hv))) h1 hm h63 hbytes (Nat.zero_le _) o.type
 unfold Oper.wp execOp
 simp only[hop,resolve,invoke,builtin,Sem.run_bind,Sem.run_pure,Result.andThen_ok,List.map_toArray,List.map_cons,List.map_nil,ev_of hrep.regs hs,ev_of hrep.regs hx,SV.conc,hrun]
 have aa:u'.heap.size≤w'.heap.size:=by rw[hus];exact k5.size
 have hgb:g=b∨g=w.heap.size:=by
  rcases k6 with k6 | k6
  ·have:some b=some g:=k6
   injection this with this;exact .inl this.symm
  exact .inr k6
 have hgw:=zxa hgv
 have hcs:w'.heap[g]? = some (.cells cs.toList.toArray E (0,0)):=by simpa using hgv
 have hkey:∀k,k<u'.heap.size→k≠b→w'.heap[k]? = w.heap[k]? := fun k hk hne=>k5.block k xq (fun e=>hne (by have:some k=some b:=e;injection this))
 have hbw:b<w'.heap.size:=by omega
 have hgl:g<(setW (hide u' w') b hidO).heap.size:=by rw[setW_size,zwp aa];exact hgw
 have hold:∀k,k<u'.heap.size→k≠b→(grownW u' w' b g (.cells cs.toList.toArray E (0,0))).heap[k]? = u'.heap[k]? := fun k hk hne=>by
  unfold grownW
  rw[setW_ne (by rcases hgb with h | h<;>omega),setW_ne hne,hide_old hk]
 have hdat:Dat (grownW u' w' b g (.cells cs.toList.toArray E (0,0))) w':=by
  refine ⟨grownW_size aa,fun k ob hk hh=>?_⟩
  by_cases e:k=g
  ·subst e
   unfold grownW at hk
   rw[setW_eq hgl] at hk
   rw[hcs];exact hk
  unfold grownW at hk
  rw[setW_ne e] at hk
  by_cases e2:k=b
  ·subst e2
   rw[setW_eq (by rw[zwp aa];exact hbw)] at hk
   injection hk with hk;exact absurd hk.symm hh
  rw[setW_ne e2] at hk
  rcases Nat.lt_or_ge k u'.heap.size with hlt | hge
  ·rw[hide_old hlt] at hk
   rw[hkey k hlt e2];exact hrep.dat.vis k ob hk hh
  have:=zxa hk
  rw[zwp aa] at this
  rw[hide_new hge this] at hk
  injection hk with hk;exact absurd hk.symm hh
 have hgr:GrowF [b] u' (grownW u' w' b g (.cells cs.toList.toArray E (0,0))):=⟨by rw[grownW_size aa];exact aa,fun k hk hf=>hold k hk (by simpa using hf)⟩
 have hr1:=hrep.mut (F:=[b]) (fun b' hm=>by simp at hm;subst hm;exact ⟨hb,_,hub',by unfold hidO;intro e;cases e⟩) hdat ⟨k5.os,k5.tape,k5.output,k5.size,fun k hk _ hf=>hkey k (by rw[hus];exact hk) (by simpa using hf)⟩ hgr
 have hr2:=hr1.set (d:=o.dst) (x:=some (.v (.slice (some ⟨g,0,none⟩) (n+m) c1))) (v:=.slice (some ⟨g,0,none⟩) (n+m) c1) (fun s hs=>(zxy hd hf s hs).1) (fun z e=>by injection e with e;rw[← e];rfl) (fun z t e ht=>by injection e with e;rw[← e] at ht;cases ht)
 show ∃S' B' u'' u2,Rep w0 u0 S' B' (a.put o.dst _) w' u''∧_
 refine ⟨_,B,_,_,hr2,(fun e=>by cases e),(fun e=>by cases e),Ext.refl _,?_⟩
 rw[hd]
 exact k g c1 cs.toList _ k1 k2 k3 k4 (by unfold grownW;rw[setW_eq hgl]) (by have:=he.size;omega) (ExtF.toB (.pre he hgr.extF)) (fun q q0 q1 q2=>app_all q hT hi hzs hsz hwb hn hcl hl (fun j v hv=>by rw[addr_add];exact hrep.dat.ext.cell (he.cell (hnews j v hv))) h1 h63 hbytes hrun hgv q0 q1 q2)
theorem sy_appD0p (d:Tmp) {T E:TypeId} {s x:Operand} {z:Value} {size bytes:Nat} {b2 off m c:Nat} (news:List Value) (hT:P.underlying T=some (.slice E)) (hi:(P.info? E).map (fun i=>(i.zero,i.size,i.bytes))=some (some z,size,bytes)) (hzs:z.cells.size=size) (hsz:0<size)
  (hl:news.length=m*size) (hnews:∀j v,news[j]? = some v→u.cell? ⟨b2,off+j,none⟩=some v) (h1:∀v∈news,v.oneCell'=true) (hm:0<m) (h63:m≤maxLen) (hbytes:m*bytes≤140737488355328)
  (k:∀ (g c1:Nat) (cs:List Value) (u1:World),m≤c1→c1≤maxLen→cs.length=c1*size→cs.take (m*size)=news→u1.heap[g]? = some (.cells cs.toArray E (0,0))→u.heap.size≤g→u0.heap.size≤g→Ext u u1→(∀q:Value→Prop,(∀v∈news,q v)→(∀v∈z.cells.toList,q v)→∀v∈cs,q v)→sym P ops w0 u0 true rest (S.set d (.v (.slice (some ⟨g,0,none⟩) m c1))) u1 K)
  (hw:Wants ops o S:=by exact zwf xj) (hd:o.dst=some d:=by kernel_rfl) (hop:o.op=.call { callee:=.builtin .append,args:=#[s,x],argTypes:=#[T,T] }:=by rfl) (hf:freeB S d=true:=by kernel_rfl)
  (hs:evO S s=some (.v (qyn)):=by rfl) (hx:evO S x=some (.v (.slice (some ⟨b2,off,none⟩) m c)):=by rfl):sym P ops w0 u0 true ((o,p)::rest) S u K:=by
 refine .inr (.inr (.inl ⟨.inl rfl,fun B a w u' he hrep=>⟨hw B a hrep.regs,?_⟩⟩))
 have hus:u'.heap.size=w.heap.size:=hrep.dat.size
 obtain ⟨g,c1,cs,w',hrun,hgv,k1,k2,k3,k4,k5,k6⟩:=run_app (P:=P) (u0:={ w with heap:=#[] }) (w:=w) (v:=qyn) (n:=0) (xs:=[]) (ad:=⟨b2,off,none⟩) (c:=c) hT hi hzs hsz
  ⟨by simp,.inl ⟨rfl,rfl⟩⟩ hl (fun j v hv=>by rw[addr_add];exact hrep.dat.ext.cell (he.cell (hnews j v hv))) h1 hm (by rw[Nat.zero_add];exact h63) (by rw[Nat.zero_add];exact hbytes) (Nat.zero_le _) o.type
 rw[Nat.zero_add] at hrun k1 k4
 unfold Oper.wp execOp
 simp only[hop,resolve,invoke,builtin,Sem.run_bind,Sem.run_pure,Result.andThen_ok,List.map_toArray,List.map_cons,List.map_nil,ev_of hrep.regs hs,ev_of hrep.regs hx,SV.conc,hrun]
 have aa:u'.heap.size≤w'.heap.size:=by rw[hus];exact k5.size
 have hge:g=w.heap.size:=by
  rcases k6 with k6 | k6
  ·cases k6
  exact k6
 have hgw:=zxa hgv
 have hcs:w'.heap[g]? = some (.cells cs.toList.toArray E (0,0)):=by simpa using hgv
 have hkey:∀k,k<u'.heap.size→w'.heap[k]? = w.heap[k]? := fun k hk=>k5.block k xq (fun e=>by cases e)
 have hgl:g<(hide u' w').heap.size:=by rw[zwp aa];exact hgw
 have hold:∀k,k<u'.heap.size→(setW (hide u' w') g (.cells cs.toList.toArray E (0,0))).heap[k]? = u'.heap[k]? := fun k hk=>by
  rw[setW_ne xq,hide_old hk]
 have hdat:Dat (setW (hide u' w') g (.cells cs.toList.toArray E (0,0))) w':=by
  refine ⟨by rw[setW_size,zwp aa],fun k ob hk hh=>?_⟩
  by_cases e:k=g
  ·subst e
   rw[setW_eq hgl] at hk
   rw[hcs];exact hk
  rw[setW_ne e] at hk
  rcases Nat.lt_or_ge k u'.heap.size with hlt | hge
  ·rw[hide_old hlt] at hk
   rw[hkey k hlt];exact hrep.dat.vis k ob hk hh
  have:=zxa hk
  rw[zwp aa] at this
  rw[hide_new hge this] at hk
  injection hk with hk;exact absurd hk.symm hh
 have hgr:GrowF [] u' (setW (hide u' w') g (.cells cs.toList.toArray E (0,0))):=⟨by rw[setW_size,zwp aa];exact aa,fun k hk _=>hold k hk⟩
 have hr1:=hrep.mut (F:=[]) (fun b' hm=>by cases hm) hdat ⟨k5.os,k5.tape,k5.output,k5.size,fun k hk _ _=>hkey k (by rw[hus];exact hk)⟩ hgr
 have hr2:=hr1.set (d:=o.dst) (x:=some (.v (.slice (some ⟨g,0,none⟩) m c1))) (v:=.slice (some ⟨g,0,none⟩) m c1) (fun s hs=>(zxy hd hf s hs).1) (fun z e=>by injection e with e;rw[← e];rfl) (fun z t e ht=>by injection e with e;rw[← e] at ht;cases ht)
 show ∃S' B' u'' u2,Rep w0 u0 S' B' (a.put o.dst _) w' u''∧_
 refine ⟨_,B,_,_,hr2,(fun e=>by cases e),(fun e=>by cases e),Ext.refl _,?_⟩
 rw[hd]
 have hs1:=he.size
 have hs2:=hrep.grow.size
 exact k g c1 cs.toList _ k1 k2 k3 (by simpa using k4) (setW_eq hgl) xq xq (he.trans hgr.nil.ext) (fun q q1 q2=>app_all0 q hT hi hzs hsz hl (fun j v hv=>by rw[addr_add];exact hrep.dat.ext.cell (he.cell (hnews j v hv))) hm h63 hbytes hrun hgv q1 q2)
theorem Left.step {M:List Nat} {pre post:List (Nat×List Tmp)} {y:Nat×List Tmp} {listed:Array Bool} (hL:Left ops M (pre++y::post) listed) (hro:∀j,(M.getD y.1 0).testBit j=true→j∉(pre++y::post).map (·.1)):Left ops M (pre++post) (listed.setIfInBounds y.1 true):=by
 have hsub:(pre++post).Sublist (pre++y::post):=List.Sublist.append_left (List.sublist_cons_self _ _) _
 have hyn:y.1∉(pre++post).map (·.1):=by
  have:=hL.nodup
  rw[List.map_append,List.map_cons] at this
  have h2:=List.nodup_append.1 this
  have h3:=(List.nodup_cons.1 h2.2.1).1
  intro hm
  rw[List.map_append] at hm
  rcases List.mem_append.1 hm with hm | hm
  ·exact h2.2.2 y.1 hm y.1 (List.mem_cons_self ..) rfl
  exact h3 hm
 have hmem:∀j,j≠y.1→(j∈(pre++post).map (·.1)↔j∈(pre++y::post).map (·.1)):=fun j hj=>by simp[hj]
 refine ⟨hL.nodup.sublist (hsub.map _),hL.pair.sublist hsub,by simp[hL.size],fun j hj=>?_,fun x hx=>hL.lt x (hsub.mem hx),fun x hx=>hL.mask x (hsub.mem hx),fun j hj hjn x hx=>?_⟩
 ·by_cases e:j=y.1
  ·subst e
   constructor
   ·intro h
    simp[hL.size,hj] at h
   intro h;exact absurd h hyn
  rw[getD_set_ne true (Ne.symm e),hmem j e]
  exact hL.mem j hj
 intro hmx
 by_cases e:j=y.1
 ·subst e;exact hro x hx ((hsub.map _).mem hmx)
 exact hL.closed j hj (fun h=>hjn ((hmem j e).2 h)) x hx ((hsub.map _).mem hmx)
def chainB (M:List Nat):List (Nat×List Tmp)→Bool
 | []=>true
 | x::l=>l.all (fun y=>(M.getD y.1 0).testBit x.1)&&chainB M l
theorem any_chain {M:List Nat} {Q:Exit→Act→World→Prop}:∀ (T:List (Nat×List Tmp)) (listed:Array Bool) (a:Act) (w:World),Left ops M T listed→chainB M T=true →
  wpList P ops Q (T.map fun x=>ops.getD x.1 default) a w→wpAny P .any ops Q T.length listed a w:=by
 intro T
 induction T with
 | nil =>
  intro listed a w hL _ h
  refine ⟨?_,h⟩
  cases e:Region.ready .any ops listed with
  | nil=>rfl
  | cons i l =>
   have:=(hL.ready_mem (i:=i) (by rw[e];exact List.mem_cons_self ..)).2.1
   simp at this
 | cons y T ih =>
  intro listed a w hL hc h
  simp only[chainB,Bool.and_eq_true] at hc
  refine ⟨fun e=>?_,fun i hi=>?_⟩
  ·have:=hL.head_ready
   rw[e] at this
   cases this
  obtain ⟨hlt,hm,hout⟩:=hL.ready_mem hi
  obtain ⟨x,hx,rfl⟩:=List.mem_map.1 hm
  have hro:=reach_out hL hx hout
  have hxy:x=y:=by
   rcases List.mem_cons.1 hx with rfl | hx'
   ·rfl
   exact absurd (List.mem_map.2 ⟨y,List.mem_cons_self ..,rfl⟩) (hro y.1 (List.all_eq_true.1 hc.1 x hx'))
  subst hxy
  have hL':Left ops M T (listed.setIfInBounds x.1 true):=by
   have:=Left.step (pre:=[]) (post:=T) hL hro
   exact this
  have key:ops[x.1]? = some (opAt ops x).1:=get_op hlt
  simp only[wpOp,key]
  simp only[List.map_cons] at h
  unfold wpList at h
  have h:if Region.wanted (opAt ops x).1 (yielded ops a.tmps)=true then (opAt ops x).1.wp P a w (wpList P ops Q (T.map fun x=>ops.getD x.1 default)) Q∨((opAt ops x).1.asks P a w∧LetsOut Q) else wpList P ops Q (T.map fun x=>ops.getD x.1 default) (a.put (opAt ops x).1.dst undef) w:=h
  split
  ·rename_i hw
   rw[if_pos hw] at h
   exact h.imp (Oper.wp_mono fun a w h=>ih _ a w hL' hc.2 h) id
  rename_i hw
  rw[if_neg hw] at h
  exact ih _ _ w hL' hc.2 h
theorem any_symT {M:List Nat} {T:List (Nat×List Tmp)} {Q:Exit→Act→World→Prop} (hK:Mono K) (hc:chainB M T=true) (hQ:∀S u,K S u→∀B a w,Rep w0 u0 S B a w u→wpList P ops Q (T.map fun x=>ops.getD x.1 default) a w) :
  ∀ (fuel:Nat) (L:List (Nat×List Tmp)) (listed:Array Bool) (S:St) (B:Tmp→Nat) (a:Act) (w u:World),L.length=fuel→Left ops M (L++T) listed→(∀x∈L,∀y∈T,(M.getD y.1 0).testBit x.1=true)→Rep w0 u0 S B a w u →
   sym P ops w0 u0 false (L.map (opAt ops)) S u K→wpAny P .any ops Q (fuel+T.length) listed a w:=by
 intro fuel
 induction fuel with
 | zero =>
  intro L listed S B a w u hl hL _ hr hs
  obtain rfl:=List.length_eq_zero_iff.1 hl
  rw[Nat.zero_add]
  exact any_chain T listed a w hL hc (hQ S u hs B a w hr)
 | succ fuel ih =>
  intro L listed S B a w u hl hL hT hr hs
  rw[Nat.succ_add]
  refine ⟨fun e=>?_,fun i hi=>?_⟩
  ·cases L with
   | nil=>cases hl
   | cons x L =>
    have:=Left.head_ready (L:=L++T) hL
    rw[e] at this
    cases this
  obtain ⟨hlt,hm,hout⟩:=hL.ready_mem hi
  obtain ⟨y,hy,rfl⟩:=List.mem_map.1 hm
  have hro:=reach_out hL hy hout
  have hyL:y∈L:=by
   rcases List.mem_append.1 hy with h | h
   ·exact h
   cases L with
   | nil=>cases hl
   | cons x L=>exact absurd zv (hro x.1 (hT x (List.mem_cons_self ..) y h))
  obtain ⟨pre,post,rfl⟩:=List.append_of_mem hyL
  have hsw:∀x∈pre.map (opAt ops),swapOk ops x (opAt ops y)=true:=by
   intro x hx
   obtain ⟨x',hx',rfl⟩:=List.mem_map.1 hx
   have hp:=hL.pair
   rw[List.append_assoc,List.cons_append] at hp
   have:=(List.pairwise_append.1 hp).2.2 x' hx' y (List.mem_cons_self ..)
   simp only[pairOk,Bool.and_eq_true,Bool.or_eq_true] at this
   rcases this.1 with h1 | h1
   ·exact absurd (List.mem_map.2 ⟨x',by simp[hx'],rfl⟩) (hro x'.1 h1)
   exact h1
  rw[List.map_append,List.map_cons] at hs
  have hone:=bubble hK (pre.map (opAt ops)) S u hr.wf hsw hs
  have hsound:=one_sound (Q:=Q) (zwd hK) hone (Ext.refl _) hr
  have hL':Left ops M ((pre++post)++T) (listed.setIfInBounds y.1 true):=by
   have e1:(pre++y::post)++T=pre++y::(post++T):=by simp
   rw[e1] at hL hro
   have:=Left.step hL hro
   rw[List.append_assoc];exact this
  have hfin:∀a' w',(∃S' B' u'',Rep w0 u0 S' B' a' w' u''∧(false=false→Ext u u'')∧sym P ops w0 u0 false (pre.map (opAt ops)++post.map (opAt ops)) S' u'' K)→wpAny P .any ops Q (fuel+T.length) (listed.setIfInBounds y.1 true) a' w':=by
   rintro a' w' ⟨S',B',u'',g1,_,g3⟩
   refine ih (pre++post) _ S' B' a' w' u'' (by simp at hl ⊢;omega) hL' (fun x hx=>hT x (by simp at hx ⊢;rcases hx with h | h<;>simp[h])) g1 ?_
   rw[List.map_append];exact g3
  have key:ops[y.1]? = some (opAt ops y).1:=get_op hlt
  simp only[wpOp,key]
  split
  ·rename_i hw
   rw[if_pos hw] at hsound
   exact .inl (Oper.wp_mono hfin hsound)
  rename_i hw
  rw[if_neg hw] at hsound
  exact hfin _ _ hsound
def tailB (M:List Nat) (L T:List (Nat×List Tmp)):Bool:=L.all (fun x=>T.all fun y=>(M.getD y.1 0).testBit x.1)&&chainB M T
theorem sw_anyC {id:Nat} {Q:MP} (M:List Nat) (q T:List (Nat×List Tmp)) (hm:P.follows .mixedOrders=true) (hok:regOk ops M (q++T)=true) (ht:tailB M q T=true)
  (h:sym P ops w0 u0 false (q.map (opAt ops)) S u (fun S' u'=>sym P ops w0 u0 true (T.map fun x=>(ops.getD x.1 default,[])) S' u' (Q.f .normal))):SW P w0 u0 (.region id ops true) S u Q:=by
 intro B a w u' e hr
 simp only[regOk,Bool.and_eq_true,beq_iff_eq,List.all_eq_true] at hok
 obtain ⟨⟨⟨⟨h1,h2⟩,h5⟩,h3⟩,h4⟩:=hok
 simp only[tailB,Bool.and_eq_true,List.all_eq_true] at ht
 have hnd:=nodupB_spec h2
 have hall:∀i,i<ops.size→i∈(q++T).map (·.1):=fun i hi=>List.contains_iff_mem.1 (h5 i (by simpa using hi))
 have hK:Mono (fun S' u'=>sym P ops w0 u0 true (T.map fun x=>(ops.getD x.1 default,([]:List Tmp))) S' u' (Q.f .normal)):=zwd (Q.mono _)
 have hs:ops.size=q.length+T.length:=by rw[← h1,List.length_append]
 refine wp_region_any hm ?_
 rw[hs]
 have hlist:Left ops M (q++T) (Array.replicate (q.length+T.length) false):=by
  rw[← hs]
  refine ⟨hnd,pairsOk_spec h4,by simp,fun i hi=>?_,fun x hx=>?_,fun x hx=>(h3 x hx).2,fun j hj hjn=>absurd (hall j hj) hjn⟩
  ·simp only[Array.getD_eq_getD_getElem?]
   rw[Array.getElem?_eq_getElem (by simpa using hi)]
   simp only[Array.getElem_replicate,Option.getD_some,true_iff]
   exact hall i hi
  obtain ⟨⟨g1,g2⟩,g3⟩:=h3 x hx
  refine ⟨by simpa using g1,fun e he hb=>?_⟩
  simp only[Bool.not_eq_true',List.any_eq_false] at g2
  have:=g2 e (by simpa using he)
  simp[hb] at this
  exact this
 refine any_symT hK ht.2 (fun S u'' h B a w hr=>?_) q.length q _ S B a _ u' rfl hlist (fun x hx y hy=>ht.1 x hx y hy) hr.drew (zwd hK _ _ _ e h)
 have:=sl_key (Q:=fun e a' w'=>∃S' B' u'',Rep w0 u0 S' B' a' w' u''∧Q.f e S' u'') (K:=Q.f .normal) (Q.mono _) [] (fun S u h B a w hr=>by exact ⟨S,B,u,hr,h⟩) (T.map fun x=>ops.getD x.1 default) S B a w u'' hr (by rw[List.map_map];exact h)
 rw[List.append_nil] at this
 exact this
end
structure PL where
 o:Int
 g:Int
 h:Int
def PL.cs (p:PL):List Value:=[.int .i64 p.o,.int .i64 p.g,.int .i64 p.h]
@[reducible] def PL.v (p:PL):Value:=.agg #[.int .i64 p.o,.int .i64 p.g,.int .i64 p.h]
structure WL where
 b:Int
 f:Int
 r:Int
 o:Int
@[reducible] def WL.v (w:WL):Value:=.agg #[.int .i64 w.b,.int .i64 w.f,.int .i64 w.r,.int .i64 w.o]
def WL.cs (w:WL):List Value:=[.int .i64 w.b,.int .i64 w.f,.int .i64 w.r,.int .i64 w.o]
namespace Nt
def p2i (n:Int):Int:=2^n.toNat
end Nt
theorem mod_pos9 (m:Int) (hm:1≤m) (n:Int) (h:decide (Int.tmod n m<0)=false):Int.tmod n m=n%m:=by
 have h:=qyf h
 rcases Int.lt_or_le n 0 with hn | hn
 ·have e:=Int.tmod_add_mul_tdiv n m
  have h2 : -m<Int.tmod n m:=Int.lt_tmod_of_pos n xq
  have h3:Int.tmod n m≤0:=by
   have h8:=Int.neg_tmod n m
   have h9:Int.tmod (-n) m=(-n)%m:=Int.tmod_eq_emod_of_nonneg xq
   have h10:=Int.emod_nonneg (-n) (show m≠0 by omega)
   omega
  have h4:Int.tmod n m=0:=by omega
  rw[h4] at e ⊢
  have:m∣n:=⟨n.tdiv m,by omega⟩
  exact (Int.emod_eq_zero_of_dvd this).symm
 exact Int.tmod_eq_emod_of_nonneg hn
theorem mod_neg9 (m:Int) (hm:1≤m) (n:Int) (h:decide (Int.tmod n m<0)=true):Int.tmod n m+m=n%m:=by
 have h:=qyt h
 have e:=Int.tmod_add_mul_tdiv n m
 have h2 : -m<Int.tmod n m:=Int.lt_tmod_of_pos n xq
 have h5:n=m*(n.tdiv m - 1)+(Int.tmod n m+m):=by rw[Int.mul_sub,Int.mul_one];omega
 have:=(ediv_uniq (z:=n) (y:=m) (q:=n.tdiv m - 1) (r:=Int.tmod n m+m) xq h5 xq xq).2
 exact this.symm
def MutL (k:Nat) (ty:TypeId) (lo:Nat) (u:World) (x:Sl) (cs:List Value):Prop :=
 cs.length=x.n*k∧x.n≤x.c∧x.c≤maxLen∧(x=⟨none,0,0⟩∨∃b all,x.a=some ⟨b,0,none⟩∧u.heap[b]? = some (.cells (List.toArray all) ty (0,0))∧all.length=x.c*k∧all.take (x.n*k)=cs∧lo≤b)
def offB (x:Sl) (h:Nat):Prop:=∀a,x.a=some a→a.block≠h
structure ExtX (x:Sl) (u u':World):Prop where
 size:u.heap.size≤u'.heap.size
 vis:∀ (k:Nat) (o:Obj),offB x k→u.heap[k]? = some o→o≠hidO→u'.heap[k]? = some o
def sl0:Sl:=⟨none,0,0⟩
structure TL where
 f:Int
 c:Int
def TL.cs (t:TL):List Value:=[.int .i64 t.f,.int .i64 t.c]
@[reducible] def TL.v (t:TL):Value:=.agg #[.int .i64 t.f,.int .i64 t.c]
def ics (l:List Int):List Value:=l.map (Value.int .i64)
section
variable {k lo lo' h b n c i:Nat} {ty t2:TypeId} {u u' u'' v:World} {x y:Sl} {cs cs':List Value}
theorem ExtX.root {cs:List Value} {u0:World} (e:ExtX x u u') (m:MutL k ty u0.heap.size u x cs) (r:Ext u0 u):Ext u0 u':=⟨Nat.le_trans r.size e.size,fun q o hq hh=>by
 refine e.vis q o (fun a ha hc=>?_) (r.vis q o hq hh) hh
 rcases m.2.2.2 with h1 | ⟨b,all,h1,_,_,_,h5⟩
 ·rw[h1] at ha;cases ha
 rw[h1] at ha;injection ha with ha;subst ha
 have:=zxa hq
 have hc:b=q:=hc
 omega⟩
theorem Ext.toX (e:Ext u u') (x:Sl):ExtX x u u':=⟨e.size,fun q o _ h1 h2=>e.vis q o h1 h2⟩
theorem ExtB.toX (e:ExtB b u u') (hx:x.a=some ⟨b,0,none⟩):ExtX x u u':=⟨e.size,fun q o ho h1 h2=>e.vis q o (fun hc=>ho _ hx hc.symm) h1 h2⟩
theorem zwi (l:List Int):(ics l).length=l.length:=by unfold ics;simp
theorem ics_at {l:List Int} (h:i<l.length):(ics l)[i]? = some (.int .i64 (l.getD i 0)):=by
 unfold ics
 rw[List.getElem?_map,qyg,List.getElem?_eq_getElem h];rfl
end
def NU (v:Value):Prop:=∀y,v≠.int .u32 y
def MutQ (k:Nat) (ty:TypeId) (lo:Nat) (u:World) (x:Sl) (cs:List Value):Prop :=
 cs.length=x.n*k∧x.n≤x.c∧x.c≤maxLen∧(x=⟨none,0,0⟩∨∃b all,x.a=some ⟨b,0,none⟩∧u.heap[b]? = some (.cells (List.toArray all) ty (0,0))∧all.length=x.c*k∧all.take (x.n*k)=cs∧lo≤b∧∀v∈all,NU v)
section
variable {k lo lo' h b n c i j off:Nat} {ty t2:TypeId} {u u' u'' v:World} {x y z:Sl} {cs cs' vs:List Value} {L:List RL} {r:RL} {q:Rat} {K:Nat}
theorem MutQ.mutL (m:MutQ k ty lo u x cs):MutL k ty lo u x cs:=⟨m.1,m.2.1,m.2.2.1,m.2.2.2.imp id fun ⟨b,all,h1,h2,h3,h4,h5,_⟩=>⟨b,all,h1,h2,h3,h4,h5⟩⟩
theorem nu_sl (a:Option Addr) (n c:Nat):NU (.slice a n c):=fun y e=>by cases e
theorem MutQ.keep (m:MutQ k ty lo u x cs) (e:ExtX x u u') (h:RatN u r q K):RatN u' r q K:=by
 rcases m.2.2.2 with h1 | ⟨b,all,h1,h2,_,_,_,h6⟩
 ·refine h.ext ⟨e.size,fun q o ho hh=>e.vis q o (fun a ha=>by rw[h1] at ha;cases ha) ho hh⟩
 exact h.extB0 h2 h6 ⟨e.size,fun q o hq ho hh=>e.vis q o (fun a ha hc=>by rw[h1] at ha;injection ha with ha;subst ha;exact hq hc.symm) ho hh⟩
theorem MutQ.keeps {l:List Rat} (m:MutQ k ty lo u x cs) (e:ExtX x u u') (h:RatsN u L l K):RatsN u' L l K:=⟨h.1,fun i hi=>m.keep e (h.2 i hi)⟩
end
def IsS (v:Value):Prop:=∃a n c,v=.slice a n c
def MutS (k:Nat) (ty:TypeId) (lo:Nat) (u:World) (x:Sl) (cs:List Value):Prop :=
 cs.length=x.n*k∧x.n≤x.c∧x.c≤maxLen∧(x=⟨none,0,0⟩∨∃b all,x.a=some ⟨b,0,none⟩∧u.heap[b]? = some (.cells (List.toArray all) ty (0,0))∧all.length=x.c*k∧all.take (x.n*k)=cs∧lo≤b∧∀v∈all,IsS v)
abbrev Rt:=Sl×Sl
def rt0:Rt:=(sl0,sl0)
def rvs (Ss:List Rt):List Value:=Ss.flatMap fun p=>[p.1.v,p.2.v]
def RtN (u:World) (Ss:List Rt) (Fs:List (List Rat×List Rat)) (K:Nat):Prop :=
 Ss.length=Fs.length∧∀i,i<Fs.length→PolN u (Ss.getD i rt0).1 (Fs.getD i ([],[])).1 K∧PolN u (Ss.getD i rt0).2 (Fs.getD i ([],[])).2 K
section
variable {k lo b n c i K K':Nat} {ty:TypeId} {u u':World} {x y:Sl} {cs:List Value} {l:List Rat} {Ss:List Rt} {Fs:List (List Rat×List Rat)}
theorem IsS.nu {v:Value} (h:IsS v):NU v:=by obtain ⟨a,n,c,rfl⟩:=h;exact nu_sl a n c
theorem is_v (x:Sl):IsS x.v:=⟨_,_,_,rfl⟩
theorem is_two (x y:Sl):∀v∈[x.v,y.v],IsS v:=fun v hv=>by
 rcases List.mem_cons.1 hv with rfl | hv
 ·exact is_v x
 rw[List.mem_singleton.1 hv];exact is_v y
theorem MutS.q (m:MutS k ty lo u x cs):MutQ k ty lo u x cs :=
 ⟨m.1,m.2.1,m.2.2.1,m.2.2.2.imp id fun ⟨b,all,h1,h2,h3,h4,h5,h6⟩=>⟨b,all,h1,h2,h3,h4,h5,fun v hv=>(h6 v hv).nu⟩⟩
theorem MutS.ext (m:MutS k ty lo u x cs) (e:Ext u u'):MutS k ty lo u' x cs :=
 ⟨m.1,m.2.1,m.2.2.1,m.2.2.2.imp id fun ⟨b,all,h1,h2,h3⟩=>⟨b,all,h1,e.cells h2,h3⟩⟩
theorem MutS.nil (k:Nat) (ty:TypeId) (lo:Nat) (u:World):MutS k ty lo u sl0 []:=⟨by simp[sl0],Nat.le_refl _,Nat.zero_le _,.inl rfl⟩
theorem cellX (e:ExtX x u u') {b o:Nat} {v:Value} (hb:offB x b) (hc:u.cell? ⟨b,o,none⟩=some v):u'.cell? ⟨b,o,none⟩=some v:=by
 unfold World.cell? at hc ⊢
 cases h1:u.heap[b]? with
 | none=>dsimp only at hc;rw[h1] at hc;cases hc
 | some ob =>
  dsimp only at hc ⊢
  rw[h1] at hc
  cases ob with
  | cells c t fr=>rw[e.vis _ _ hb h1 (by unfold hidO;exact fun e=>by cases e)];exact hc
  | _=>cases hc
theorem PolN.keepS (h:PolN u y l K) (m:MutS k ty lo u x cs) (e:ExtX x u u'):PolN u' y l K:=by
 obtain ⟨L,⟨h1,h2,h3,h4⟩,h5⟩:=h
 refine ⟨L,⟨h1,h2,h3,fun hp=>?_⟩,m.q.keeps e h5⟩
 obtain ⟨b,o,ha,hc⟩:=h4 hp
 refine ⟨b,o,ha,fun j hj=>?_⟩
 have hcj:=hc j hj
 rw[List.getElem?_eq_getElem hj] at hcj ⊢
 refine cellX e (fun a hx hb=>?_) hcj
 obtain ⟨r,L',rfl⟩:∃r L',L=r::L':=by
  cases L with
  | nil=>exact absurd hj (Nat.not_lt_zero _)
  | cons r L'=>exact ⟨r,L',rfl⟩
 have h0:=hc 0 (by show 0<(r.cs++rcs L').length;simp[RL.cs])
 rw[show (rcs (r::L'))[0]? = some (.bool r.s) from rfl] at h0
 rcases m.2.2.2 with g | ⟨b',all,g1,g2,_,_,_,g6⟩
 ·rw[g] at hx;cases hx
 rw[g1] at hx;injection hx with hx;subst hx
 subst hb
 unfold World.cell? at h0
 dsimp only at h0
 rw[g2] at h0
 have h9:all[o+0]? = some (.bool r.s):=by simpa using h0
 obtain ⟨_,_,_,e9⟩:=g6 _ (List.mem_of_getElem? h9)
 cases e9
theorem RtN.nil:RtN u [] [] K:=⟨rfl,fun i hi=>absurd hi (Nat.not_lt_zero i)⟩
theorem RtN.ext (h:RtN u Ss Fs K) (e:Ext u u'):RtN u' Ss Fs K:=⟨h.1,fun i hi=>⟨(h.2 i hi).1.ext e,(h.2 i hi).2.ext e⟩⟩
theorem RtN.keep (h:RtN u Ss Fs K) (m:MutS k ty lo u x cs) (e:ExtX x u u'):RtN u' Ss Fs K:=⟨h.1,fun i hi=>⟨(h.2 i hi).1.keepS m e,(h.2 i hi).2.keepS m e⟩⟩
theorem RtN.snoc {p q:Sl} {f g:List Rat} (h:RtN u Ss Fs K) (hp:PolN u p f K) (hq:PolN u q g K):RtN u (Ss++[(p,q)]) (Fs++[(f,g)]) K:=by
 refine ⟨by rw[List.length_append,List.length_append,h.1];rfl,fun i hi=>?_⟩
 rw[List.length_append] at hi
 rw[qyg,qyg]
 by_cases hl:i<Fs.length
 ·rw[List.getElem?_append_left (by rw[h.1];exact hl),List.getElem?_append_left hl,← qyg,← qyg]
  exact h.2 i hl
 have:i=Fs.length:=by simp at hi;omega
 subst this
 rw[List.getElem?_append_right (by rw[h.1];exact Nat.le_refl _),List.getElem?_append_right qyl,h.1,Nat.sub_self]
 exact ⟨hp,hq⟩
theorem rvs_len (Ss:List Rt):(rvs Ss).length=Ss.length*2:=by
 unfold rvs
 induction Ss with
 | nil=>rfl
 | cons p t ih=>rw[List.flatMap_cons,List.length_append,ih];simp;omega
theorem rvs_app (Ss:List Rt) (p:Rt):rvs (Ss++[p])=rvs Ss++[p.1.v,p.2.v]:=by unfold rvs;simp
theorem rvs_at:∀ (Ss:List Rt) (i:Nat),i<Ss.length→(rvs Ss)[i*2]? = some (Ss.getD i rt0).1.v∧(rvs Ss)[i*2+1]? = some (Ss.getD i rt0).2.v
 | [],i,h=>absurd h (Nat.not_lt_zero i)
 | p::t,0,_=>⟨rfl,rfl⟩
 | p::t,i+1,h=>by
  have ih:=rvs_at t i (by simpa using h)
  have e:rvs (p::t)=p.1.v::p.2.v::rvs t:=rfl
  rw[e,show (i+1)*2=i*2+1+1 by omega]
  exact ih
theorem MutS.at (m:MutS 2 ty lo u x (rvs Ss)) (h:i<Ss.length):∃b,x.a=some ⟨b,0,none⟩∧u.cell? ⟨b,0+i*2+0,none⟩=some (Ss.getD i rt0).1.v∧u.cell? ⟨b,0+i*2+1,none⟩=some (Ss.getD i rt0).2.v:=by
 obtain ⟨m1,m2,m3,m4⟩:=m
 rw[rvs_len] at m1
 rcases m4 with g | ⟨b,all,g1,g2,g3,g4,_,_⟩
 ·rw[g] at m1;dsimp only at m1;omega
 refine ⟨b,g1,?_⟩
 have hat:=rvs_at Ss i h
 have hl:=rvs_len Ss
 rw[← g4] at hat
 rw[List.getElem?_take_of_lt xq,List.getElem?_take_of_lt xq] at hat
 unfold World.cell?
 dsimp only
 rw[g2,Nat.zero_add]
 exact ⟨by simpa using hat.1,by simpa using hat.2⟩
end
section
variable {P:Program} {ops:Array Oper} {w0:Base} {u0:World} {S T:St} {B:Tmp→Nat} {a:Act} {w w' u u' u'' v:World} {o:Oper} {p:List Tmp} {rest:List (Oper×List Tmp)} {K:St→World→Prop}
theorem sy_appS (d:Tmp) {T E:TypeId} {s src:Operand} {z:Value} {size bytes:Nat} {b2 off m c:Nat} (x:Sl) (cs news:List Value) (hm0:MutS size E u0.heap.size u x cs) (hT:P.underlying T=some (.slice E)) (hi:(P.info? E).map (fun i=>(i.zero,i.size,i.bytes))=some (some z,size,bytes)) (hzs:z.cells.size=size) (hsz:0<size)
  (hl:news.length=m*size) (hnews:∀j v,news[j]? = some v→u.cell? ⟨b2,off+j,none⟩=some v) (h1:∀v∈news,v.oneCell'=true) (hm:0<m) (h63:x.n+m≤maxLen) (hbytes:(x.n+m)*bytes≤140737488355328) (hnu:∀v∈news,IsS v) (hnz:∀v∈z.cells.toList,IsS v)
  (k:∀ (y:Sl) (u1:World),MutS size E u0.heap.size u1 y (cs++news)→y.n=x.n+m→ExtX x u u1→(∀a,y.a=some a→(x.a=some a∨u.heap.size≤a.block))→sym P ops w0 u0 true rest (S.set d (.v y.v)) u1 K)
  (hw:Wants ops o S:=by exact zwf xj) (hd:o.dst=some d:=by kernel_rfl) (hop:o.op=.call { callee:=.builtin .append,args:=#[s,src],argTypes:=#[T,T] }:=by rfl) (hf:freeB S d=true:=by kernel_rfl)
  (hs:evO S s=some (.v x.v):=by rfl) (hx:evO S src=some (.v (.slice (some ⟨b2,off,none⟩) m c)):=by rfl):sym P ops w0 u0 true ((o,p)::rest) S u K:=by
 obtain ⟨q1,q2,q3,q4⟩:=id hm0
 rcases q4 with q4 | ⟨b,all,g1,g2,g3,g4,g5,g6⟩
 ·subst q4
  have hcs:cs=[]:=List.eq_nil_of_length_eq_zero (by rw[q1];simp)
  subst hcs
  have h63':m≤maxLen:=by have h9:0+m≤maxLen:=h63;omega
  have hby':m*bytes≤140737488355328:=by have h9:(0+m)*bytes≤_:=hbytes;rwa [Nat.zero_add] at h9
  refine sy_appD0p d (E:=E) (z:=z) news hT hi hzs hsz hl hnews h1 hm h63' hby' (fun g c1 cs1 u1 k1 k2 k3 k4 k5 k6 k7 k8 k9=>?_) hw hd hop hf hs hx
  refine k ⟨some ⟨g,0,none⟩,m,c1⟩ u1 ⟨by simpa using hl,k1,k2,.inr ⟨g,cs1,rfl,k5,k3,by simpa using k4,k7,k9 IsS hnu hnz⟩⟩ (by show m=0+m;omega) (k8.toX _) (fun a ha=>.inr ?_)
  injection ha with ha;subst ha;exact k6
 have hs':evO S s=some (.v (.slice (some ⟨b,0,none⟩) x.n x.c)):=by rw[hs,← g1]
 refine sy_appDp d (E:=E) (z:=z) (n:=x.n) (cap:=x.c) (cs0:=all) (b:=b) news hT hi hzs hsz hl hnews h1 hm h63 hbytes q2 q3 g3 g2 (.inl g5) (fun g c1 cs1 u1 k1 k2 k3 k4 k5 k6 k7 k8=>?_) hw hd hop hf hs' hx
 refine k ⟨some ⟨g,0,none⟩,x.n+m,c1⟩ u1 ⟨by rw[List.length_append,q1,hl,Nat.add_mul],k1,k2,.inr ⟨g,cs1,rfl,k5,k3,by rw[k4,g4],?_,k8 IsS g6 hnu hnz⟩⟩ rfl (k7.toX g1) (fun a ha=>?_)
 ·rcases k6 with k6 | k6
  ·rw[k6];exact g5
  have h8:=zxa g2
  omega
 injection ha with ha;subst ha
 rcases k6 with k6 | k6
 ·subst k6;exact .inl g1
 exact .inr k6
end
namespace Nt
open Pol
def bp:List Rat:=[((1:Int):Rat),((1:Int):Rat)]
def bm:List Rat:=[((1:Int):Rat),(((-1):Int):Rat)]
def nmQ:List Rat:=trimQ (mulQ bp bp)
def dnP (w t:Rat):List Rat:=trimQ (addQ (trimQ (addQ (trimQ ((trimQ (mulQ bm bm)).map (· * (w*w)))) (trimQ ((trimQ (mulQ bm bp)).map (· * ((((-2):Int):Rat)*(t*w))))))) (trimQ (mulQ bp bp)))
def dwn (w:Rat):List Rat:=trimQ (bm.map (· * w))
def dnR (w t:Rat):List Rat:=trimQ (addQ (trimQ (addQ (trimQ (mulQ (dwn w) (dwn w))) (trimQ (mulQ bp bp)))) (trimQ ((trimQ ((trimQ (mulQ (dwn w) bp)).map (· * (t+t)))).map (· * (((-1):Int):Rat)))))
def dn1 (w:Rat):List Rat:=trimQ (addQ (dwn w) bp)
theorem bp_ev (x:Rat):evL bp x=1+x:=by unfold bp;simp[evL];grind
theorem bm_ev (x:Rat):evL bm x=1 - x:=by unfold bm;simp[evL];grind
theorem dwn_ev (w x:Rat):evL (dwn w) x=w*(1 - x):=by unfold dwn;rw[evL_trim,evL_map,bm_ev,Rat.mul_comm]
theorem nmQ_ev (x:Rat):evL nmQ x=(1+x)*(1+x):=by unfold nmQ;rw[ev_mulL,bp_ev]
theorem dnP_ev (w t x:Rat):evL (dnP w t) x=(w*(1 - x))*(w*(1 - x)) - 2*t*((w*(1 - x))*(1+x))+(1+x)*(1+x):=by
 unfold dnP
 rw[ev_addL,ev_addL,evL_trim,evL_trim,evL_map,evL_map,ev_mulL,ev_mulL,ev_mulL,bp_ev,bm_ev,show ((((-2):Int):Rat)) = -2 from rfl]
 grind
theorem dnR_ev (w t x:Rat):evL (dnR w t) x=(w*(1 - x))*(w*(1 - x)) - 2*t*((w*(1 - x))*(1+x))+(1+x)*(1+x):=by
 unfold dnR
 simp only[evL_trim,evL_add',evL_map,ev_mulL',bp_ev,dwn_ev]
 rw[show ((((-1):Int):Rat)) = -1 from rfl]
 grind
theorem dn_same (w t:Rat):dnP w t=dnR w t:=by
 have h:=same_of_ev (p:=dnP w t) (q:=dnR w t) fun z y _=>by rw[dnP_ev,dnR_ev]
 have e1:trimQ (dnP w t)=dnP w t:=trim_trim _
 have e2:trimQ (dnR w t)=dnR w t:=trim_trim _
 rw[← e1,← e2,h]
theorem dn1_ev (w x:Rat):evL (dn1 w) x=w*(1 - x)+(1+x):=by unfold dn1;rw[ev_addL,dwn_ev,bp_ev]
noncomputable def bwS (n:Nat) (w:Rat):Nat→List (List Rat×List Rat)
 | 0=>[]
 | k+1=>bwS n w k++[(nmQ,dnP w (bwT n k))]
noncomputable def bwSs (n:Nat) (w:Rat):List (List Rat×List Rat):=if n%2=1 then bwS n w (n / 2)++[(bp,dn1 w)] else bwS n w (n / 2)
def pdN (x:Rat) (l:List (List Rat×List Rat)):Rat:=l.foldl (fun a p=>a*evL p.1 x) 1
def pdD (x:Rat) (l:List (List Rat×List Rat)):Rat:=l.foldl (fun a p=>a*evL p.2 x) 1
theorem prN_app (x:Rat) (l:List (List Rat×List Rat)) (p:List Rat×List Rat):pdN x (l++[p])=pdN x l*evL p.1 x:=by unfold pdN;rw[List.foldl_append];rfl
theorem prD_app (x:Rat) (l:List (List Rat×List Rat)) (p:List Rat×List Rat):pdD x (l++[p])=pdD x l*evL p.2 x:=by unfold pdD;rw[List.foldl_append];rfl
theorem bwS_len (n:Nat) (w:Rat):∀k,(bwS n w k).length=k
 | 0=>rfl
 | k+1=>by rw[bwS,List.length_append,bwS_len n w k];rfl
theorem bwS_N (n:Nat) (w x:Rat):∀k,pdN x (bwS n w k)=(1+x)^(2*k)
 | 0=>by rw[Nat.mul_zero,Rat.pow_zero];rfl
 | k+1=>by rw[bwS,prN_app,bwS_N n w x k,nmQ_ev,show 2*(k+1)=2*k+1+1 by omega,Rat.pow_succ,Rat.pow_succ,Rat.mul_assoc]
theorem bwS_D (n:Nat) (w x:Rat):∀k,pdD x (bwS n w k)=bwD n (w*(1 - x)) (1+x) k
 | 0=>rfl
 | k+1=>by rw[bwS,prD_app,bwS_D n w x k,dnP_ev,bwD]
theorem bwSs_N (n:Nat) (w x:Rat):pdN x (bwSs n w)=(1+x)^n:=by
 unfold bwSs
 split
 ·rename_i h
  rw[prN_app,bwS_N,bp_ev,← Rat.pow_succ,show 2*(n / 2)+1=n by omega]
 rw[bwS_N,show 2*(n / 2)=n by omega]
theorem bwSs_D (n:Nat) (w x:Rat):pdD x (bwSs n w)=bwE n (w*(1 - x)) (1+x):=by
 unfold bwSs bwE
 split
 ·rw[prD_app,bwS_D,dn1_ev]
 rw[bwS_D]
end Nt
end Go.Proofs.YtedobdigeeflcaaGreat
