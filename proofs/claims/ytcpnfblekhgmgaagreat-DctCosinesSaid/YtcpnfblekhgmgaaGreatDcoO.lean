/- Distances, walked. Printed by wip/sym/g_ctc.py. How near the shears of Cosine come to the transform: by evaluation, for sizes 1, 2, 4 and 4 to 19 bits. Shears are compared. The law DctCosines, walked. Printed by wip/sym/g_ctd.py. -/
import Derived.Test.YtcpnfblekhgmgaaGreatDcoN
import Derived.Laws.StructEq
set_option linter.unusedVariables false
set_option maxHeartbeats 8000000
namespace Go.Proofs.YtcpnfblekhgmgaaGreat
open Nt
open Go.RowKit
theorem Nt.dmD1{n b i k:Nat}(hi:i<n)(hk:k<n):((dmM n b).getD i []).getD (2*k) 0=(dmE n b i k).1:=by rw[dmM_at hi];exact(prs_at hk).1
theorem Nt.dmD2{n b i k:Nat}(hi:i<n)(hk:k<n):((dmM n b).getD i []).getD (2*k+1) 0=(dmE n b i k).2:=by rw[dmM_at hi];exact(prs_at hk).2
theorem k_ddistance{u w:World}{x:Sl}{S:List (List Int)}{n b:Nat}(d:Dat u w)(hx:IrV 4 u x S)(hV:shV (n:Int) S)(hn2:n≤8)(hb:b≤256)(hG:GapQ (2*n) b):qyc 9 #[x.v,.int .i64 (n:Int),.int .i64 (b:Int)] w (Post u w fun v u'=>∃r:RL,v=.tuple #[r.v,.int .i64 0]∧RatN u' r (dsA n b S n) 9000):=by
 have hn1:1≤n:=by have h9:=hV.1;omega
 refine zzl Tryz.func9 rfl Tryz.ntmps9 Tryz.results9 d ?_;refine sq9 (zzj 6 ⟨35,zw3⟩ (zza 7 (zI 0) (zzb (sq9 (zza 16 (.v (x.v)) (zza 17 (zI n) (zzg 18 27 _ fun _ _ bw bM=>qym (k_dlinear (n:=n) bM (hx.ext bw) hV) ?_)))))));rintro _ u13 g14 ⟨ac,aa,ai,rfl,ad,aj⟩;have ab:Sq n (linM n S):=by have h9:=(linM_ok hV.2.2.2 hx.rows _ qyl).1;rw[List.take_length] at h9;exact h9
 have aH:ai.length=n:=aj.1.trans ab.1;have hRl12:=ad.len;have bj:ac.n=n:=ad.rows.trans aH;refine zza 15 (.v (.tuple #[ac.v,.int .i64 0])) (zza 19 (.v (ac.v)) (zza 20 (zI 0) (zza 8 (.v (ac.v)) (zza 9 (zI 0) (zzb (zzd (sq9 (zza 21 (zI 0) (zza 22 (zB false) (zzb (zyr xj ?_)))))))))));refine zzr (zzo ?_);refine sq9 (zza 26 (zI n) (zza 27 (zI b) (zzg 28 28 _ fun _ _ ak bL=>qym (k_dmatrix (n:=n) (k:=b) bL xq xq xq hG) ?_)));rintro _ u18 am ⟨an,al,ap,rfl,aq,ao⟩;have aG:ap.length=n:=ao.1.trans (dmM_len n b);have bg:an.n=n:=aq.rows.trans aG;have hRl17:=aq.len;refine zza 25 (.v (.tuple #[an.v,.int .i64 0])) (zza 29 (.v (an.v)) (zza 30 (zI 0) (zza 10 (.v (an.v)) (zza 9 (zI 0) (zzb (zzd (sq9 (zza 31 (zI 0) (zza 32 (zB false) (zzb (zyr xj ?_)))))))))));refine zzr (zzo ?_);refine sq9 (zzg 35 29 _ fun _ _ af bl=>qym (k_ratOf bl (z:=0) xq xq) ?_);rintro _ bk ag ⟨a8,rfl,bI⟩;refine zzj 11 ⟨35,zw3⟩ (zzi ⟨35,a8.cs⟩ ty35 ?_);refine zzb (zzd (sq9 (zza 36 (.v (ac.v)) (zza 37 (zI ac.n) (zza 38 (zI 0) (zzb (zzs (zym (I:=fun bh S' u'=>∃(i:Nat) (ri:RL),(bh=n-i)∧(i≤n)∧(S'=St.of 84 [(6,.adr 6 0),(8,.v (ac.v)),(10,.v (an.v)),(11,.adr 11 0),(37,zI ac.n),(38,zI i)] [(6,⟨35,zw3⟩),(11,⟨35,ri.cs⟩)])∧(Ext bk u')∧(RatN u' ri (dsA n b S i) 9000)) (fun m S u1 u2 e h=>by obtain⟨i,ri,hm,p0,hS,hE,f0⟩:=h;exact⟨i,ri,hm,p0,hS,hE.trans e,f0.ext e⟩) _ yq ⟨0,a8,rfl,Nat.zero_le _,rfl,(Ext.refl _),(RatN.more (K:=2) bI xq)⟩ ?_))))))));rintro bh _ bC ⟨i,ri,bD,hi,rfl,ae,aO⟩;refine sq9 (zza 39 (zB (decide ((i:Int)<(ac.n:Int)))) (zzb (zzd (zzt (b:=decide ((i:Int)<(ac.n:Int))) xj (fun ar=>?_) (fun ar=>?_)))))
 ·have qhb28:=qyt ar;refine zzr (zzo ?_);refine zzd (zzs (sq9 (zza 40 (zI i) (zza 12 (zI i) (zzc 84 [(6,.adr 6 0),(8,.v (ac.v)),(10,.v (an.v)),(11,.adr 11 0),(12,zI i),(37,zI ac.n),(38,zI i)] [(6,⟨35,zw3⟩),(11,⟨35,ri.cs⟩)] (sq9 (zza 41 (.v (ac.v)) (zza 42 (zI i) ?_))))))));obtain⟨b29,a3,aT⟩:=MatQ.cell (i:=i) (ad.ext (ak.t (am.t (af.t (ag.t ae))))) xq;refine zzz 43 (0+i*1) (n:=ac.n) (off:=0) (sz:=1) (i:=(i:Int)) xq a3 xq xq sl57 ?_;have hrw30:=MatQ.row (ad.ext (ak.t (am.t (af.t (ag.t ae))))) i xq;have aB:(aa.getD i sl0).n=n:=by rw[MutQ.rown hrw30,MatN.rowlen (aj.ext xe) (by rw[ab.1];omega)];exact ab.2 i xq
  have bb:(ai.getD i []).length=n:=by rw[←MutQ.rown hrw30];exact aB
  refine zyk 44 (.slice (aa.getD i sl0).a (aa.getD i sl0).n (aa.getD i sl0).c) aT ty63 (zza 45 (zI (((aa.getD i sl0).n:Nat):Int)) (zza 46 (zI 0) (zzb (zzs (zym (I:=fun bc S' u'=>∃(j:Nat) (rj:RL),(bc=n-j)∧(j≤n)∧(S'=St.of 84 [(6,.adr 6 0),(8,.v (ac.v)),(10,.v (an.v)),(11,.adr 11 0),(12,zI i),(37,zI ac.n),(38,zI i),(45,zI (((aa.getD i sl0).n:Nat):Int)),(46,zI j)] [(6,⟨35,zw3⟩),(11,⟨35,rj.cs⟩)])∧(Ext bC u')∧(RatN u' rj (dsR n b S i (dsA n b S i) j) 9000)) (fun m S u1 u2 e h=>by obtain⟨j,rj,hm,p0,hS,hE,f0⟩:=h;exact⟨j,rj,hm,p0,hS,hE.trans e,f0.ext e⟩) _ yq ⟨0,ri,rfl,Nat.zero_le _,rfl,(Ext.refl _),(RatN.more (K:=9000) aO xq)⟩ ?_)))));rintro bc _ u31 ⟨j,rj,bK,hj,rfl,ah,a5⟩;refine sq9 (zza 47 (zB (decide ((j:Int)<(((aa.getD i sl0).n:Nat):Int)))) (zzb (zzd (zzt (b:=decide ((j:Int)<(((aa.getD i sl0).n:Nat):Int))) xj (fun av=>?_) (fun av=>?_)))))
  ·have qhb32:=qyt av;refine zzr (zzo ?_);refine zzd (zzs (sq9 (zza 48 (zI j) (zza 13 (zI j) (zzb (zzd (zzy [0,0,3,7,0,31,63,0,0,384,896,0,3968,8064,16383,0,0,98304,229376,0,1015808,2064384,4194303,0,16777215] [(0,[]),(1,[]),(2,[]),(3,[]),(4,[]),(5,[]),(6,[]),(7,[]),(8,[]),(9,[]),(10,[]),(11,[]),(12,[]),(13,[]),(15,[]),(16,[]),(17,[]),(18,[]),(19,[]),(20,[]),(21,[]),(23,[]),(14,[]),(22,[]),(24,[])] xj xj (zza 49 (.v (ac.v)) (zza 50 (zI i) ?_)))))))));obtain⟨b33,aW,aQ⟩:=MatQ.cell (i:=i) (ad.ext (ak.t (am.t (af.t (ag.t (ae.trans ah)))))) xq;refine zzz 51 (0+i*1) (n:=ac.n) (off:=0) (sz:=1) (i:=(i:Int)) xq aW xq xq sl57 ?_;have hrw34:=MatQ.row (ad.ext (ak.t (am.t (af.t (ag.t (ae.trans ah)))))) i xq;have aA:(aa.getD i sl0).n=n:=by rw[MutQ.rown hrw34,MatN.rowlen (aj.ext (ak.t (am.t (af.t (ag.t (ae.trans ah)))))) (by rw[ab.1];omega)];exact ab.2 i xq
   have ba:(ai.getD i []).length=n:=by rw[←MutQ.rown hrw34];exact aA
   refine zyk 52 (.slice (aa.getD i sl0).a (aa.getD i sl0).n (aa.getD i sl0).c) aQ ty63 (zza 53 (zI j) ?_);obtain⟨b35,a1,aI⟩:=MutQ.el1 (j:=j) hrw34 xq;refine zzz 54 (0+j*3) (n:=(aa.getD i sl0).n) (off:=0) (sz:=3) (i:=(j:Int)) xq a1 xq xq sl63 ?_;obtain⟨br,aE⟩:∃r:RL,(ai.getD i []).getD j rl0=r:=⟨_,rfl⟩
   rw[aE] at aI;have hv38:=(MatN.at (i:=i) (j:=j) (aj.ext (ak.t (am.t (af.t (ag.t (ae.trans ah)))))) (by rw[ab.1];omega) (by rw[ab.2 i xq];omega))
   rw[aE] at hv38;refine zyl 55 (br.cs) aI ty35 (zza 56 (.v (ac.v)) (zza 57 (zI i) ?_));obtain⟨b39,aS,a0⟩:=MatQ.cell (i:=i) (ad.ext (ak.t (am.t (af.t (ag.t (ae.trans ah)))))) xq;refine zzz 58 (0+i*1) (n:=ac.n) (off:=0) (sz:=1) (i:=(i:Int)) xq aS xq xq sl57 ?_;have hrw40:=MatQ.row (ad.ext (ak.t (am.t (af.t (ag.t (ae.trans ah)))))) i xq;have aD:(aa.getD i sl0).n=n:=by rw[MutQ.rown hrw40,MatN.rowlen (aj.ext (ak.t (am.t (af.t (ag.t (ae.trans ah)))))) (by rw[ab.1];omega)];exact ab.2 i xq
   have bi:(ai.getD i []).length=n:=by rw[←MutQ.rown hrw40];exact aD
   refine zyk 59 (.slice (aa.getD i sl0).a (aa.getD i sl0).n (aa.getD i sl0).c) a0 ty63 (zza 60 (zI j) ?_);obtain⟨b41,aZ,aJ⟩:=MutQ.el1 (j:=j) hrw40 xq;refine zzz 61 (0+j*3) (n:=(aa.getD i sl0).n) (off:=0) (sz:=3) (i:=(j:Int)) xq aZ xq xq sl63 ?_;obtain⟨bJ,az⟩:∃r:RL,(ai.getD i []).getD j rl0=r:=⟨_,rfl⟩
   rw[az] at aJ;have hv44:=(MatN.at (i:=i) (j:=j) (aj.ext (ak.t (am.t (af.t (ag.t (ae.trans ah)))))) (by rw[ab.1];omega) (by rw[ab.2 i xq];omega))
   rw[az] at hv44;refine zyl 62 (bJ.cs) aJ ty35 (zza 64 (.v (an.v)) (zza 65 (zI i) ?_));obtain⟨b45,aV,aP⟩:=MatQ.cell (i:=i) (aq.ext (af.t (ag.t (ae.trans ah)))) xq;refine zzz 66 (0+i*1) (n:=an.n) (off:=0) (sz:=1) (i:=(i:Int)) xq aV xq xq sl60 ?_;have hrw46:=MatQ.row (aq.ext (af.t (ag.t (ae.trans ah)))) i xq;have a6:(ap.getD i []).length=2*n:=by rw[MatN.rowlen (ao.ext (af.t (ag.t (ae.trans ah)))) (by rw[dmM_len];omega),dmM_at xq,dmRow_len]
   have a9:(al.getD i sl0).n=n:=by have h9:=hrw46.1;rw[zyx] at h9;omega
   refine zyk 67 (.slice (al.getD i sl0).a (al.getD i sl0).n (al.getD i sl0).c) aP ty66 (zza 68 (zI j) ?_);obtain⟨b47,aX,au⟩:=MutQ.el2 (j:=j) hrw46 xq;refine zzz 69 (0+j*6) (n:=(al.getD i sl0).n) (off:=0) (sz:=6) (i:=(j:Int)) xq aX xq xq sl66 ?_;obtain⟨bu,aF⟩:∃r:RL,(ap.getD i []).getD (2*j) rl0=r:=⟨_,rfl⟩
   rw[aF] at au;obtain⟨bv,ay⟩:∃r:RL,(ap.getD i []).getD (2*j+1) rl0=r:=⟨_,rfl⟩
   rw[ay] at au;have hv52:=(by have h9:=MatN.at (i:=i) (j:=2*j) (ao.ext (af.t (ag.t (ae.trans ah)))) (by rw[dmM_len];omega) (by rw[dmM_at xq,dmRow_len];omega);rewrite[dmD1 xq xq] at h9;exact h9)
   rw[aF] at hv52;have hv53:=(by have h9:=MatN.at (i:=i) (j:=2*j+1) (ao.ext (af.t (ag.t (ae.trans ah)))) (by rw[dmM_len];omega) (by rw[dmM_at xq,dmRow_len];omega);rewrite[dmD2 xq xq] at h9;exact h9)
   rw[ay] at hv53;refine zyl 70 (bu.cs++bv.cs) au ty45 (zzj 14 ⟨45,zw6⟩ (zzg 63 31 _ fun _ _ aw bm=>qym (k_ivMake bm (hv38.ext aw).raw (hv44.ext aw).raw xq) ?_));rintro _ u59 aN ⟨r55,r57,rfl,bt,bA⟩;refine zzg 71 30 _ fun _ _ ax bE=>qym (k_ivSub bE (bt.ext ax).raw (bA.ext ax).raw (hv52.ext xe).raw (hv53.ext xe).raw xq xq) ?_;rintro _ u67 be ⟨a2,aR,rfl,bH,bs⟩;refine zzi ⟨45,a2.cs++aR.cs⟩ ty45 ?_;refine zzc 84 [(6,.adr 6 0),(8,.v (ac.v)),(10,.v (an.v)),(11,.adr 11 0),(12,zI i),(14,.adr 14 0),(37,zI ac.n),(38,zI i),(45,zI (((aa.getD i sl0).n:Nat):Int)),(46,zI j)] [(6,⟨35,zw3⟩),(11,⟨35,rj.cs⟩),(14,⟨45,a2.cs++aR.cs⟩)] (zzy [0,0,2,6,0,16,62,126,255,511] [(0,[]),(1,[]),(2,[]),(4,[]),(5,[]),(3,[]),(6,[]),(7,[]),(8,[]),(9,[])] xj xj (zzh 72 (.v (rj.v)) ty35 zze (zza 73 (.adr 14 0) (zzh 74 (.v (a2.v)) ty35 zze (zza 76 (.adr 14 3) (zzh 77 (.v (aR.v)) ty35 zze (zzg 75 33 _ fun _ _ aL bF=>qym (k_ratAbs bF (bH.ext aL).raw xq) ?_)))))));rintro _ u73 a4 ⟨r71,rfl,bp⟩;refine zzg 78 33 _ fun _ _ aK bo=>qym (k_ratAbs bo (bs.ext xe).raw xq) ?_;rintro _ u79 aY ⟨r77,rfl,bG⟩;refine zzg 79 32 _ fun _ _ aM bz=>qym (k_greater (K:=9000) bz (RatN.more (K:=(100+(1000+80)+1)) (bp.ext xe) xq) (RatN.more (K:=(100+(1000+80)+1)) (bG.ext aM) xq) xw) ?_;rintro _ u85 a7 ⟨r83,rfl,bN⟩;refine zzg 80 32 _ fun _ _ aU bx=>qym (k_greater (K:=9000) bx (RatN.more (K:=9000) (a5.ext xe) xq) (RatN.more (K:=9000) (bN.ext aU) xq) xw) ?_;rintro _ u91 bq ⟨bf,rfl,bn⟩;refine zzi ⟨35,bf.cs⟩ ty35 ?_;refine zzw ?_;refine zzo (zzf (qwi 81 ((j:Int)+1) (j+1:Nat) xk (zza 46 (zI (j+1:Nat)) (zzw ?_))));refine⟨_,?_,_,by exact zzu _ _ _,j+1,bf,rfl,by omega,rfl,(ah.t (aw.t (aN.t (ax.t (be.t (aL.t (a4.t (aK.t (aY.t (aM.t (a7.t (aU.t bq.ext)))))))))))),(RatN.more (K:=9000) (L:=9000) bn xq)⟩
   omega
  have qhb32:=qyf av;refine zyb (zzo (zzf (qwi 82 ((i:Int)+1) (i+1:Nat) xk (zza 38 (zI (i+1:Nat)) (zzw ?_)))));have hjn:j=n:=by omega
  refine⟨_,?_,_,by exact zzu _ _ _,i+1,rj,rfl,by omega,rfl,(ae.trans ah),(by have h9:=a5;rw[hjn] at h9;exact h9)⟩
  omega
 have qhb28:=qyf ar;refine zyb (zzo (sq9 (zzh 83 (.v (ri.v)) ty35 zze (zzi ⟨35,ri.cs⟩ ty35 ?_))));refine zza 7 (zI 0) (zzc 84 [(6,.adr 6 0),(7,zI 0)] [(6,⟨35,ri.cs⟩)] (zzn (ret0 [ri.v,.int .i64 0] ⟨zzq ty35 zze,zzp,trivial⟩ fun u94 bB=>?_)));have hin:i=n:=by omega
 rw[hin] at aO;exact⟨ri,rfl,(aO.ext bB)⟩
theorem k_r37distance{u w:World}{x:Sl}{S:List (List Int)}{n b:Nat}(d:Dat u w)(hx:IrV 4 u x S)(hV:shV (n:Int) S)(hn2:n≤8)(hb:b≤256)(hG:GapQ (2*n) b):qyc 10 #[x.v,.int .i64 (n:Int),.int .i64 (b:Int)] w (Post u w fun v u'=>∃r:RL,v=.tuple #[r.v,.int .i64 0]∧RatN u' r (dsA n b S n) 9000):=by
 have hn1:1≤n:=by have h9:=hV.1;omega
 refine zzl Tryz.func10 rfl Tryz.ntmps10 Tryz.results10 d ?_;refine sq9 (zzj 6 ⟨35,zw3⟩ (zza 7 (zI 0) (zzb (sq9 (zza 18 (.v (x.v)) (zza 19 (zI n) (zzg 20 34 _ fun _ _ bK bU=>qym (k_r37linear (n:=n) bU (hx.ext bK) hV) ?_)))))));rintro _ u13 g14 ⟨ac,ab,am,rfl,aj,ap⟩;have aa:Sq n (linM n S):=by have h9:=(linM_ok hV.2.2.2 hx.rows _ qyl).1;rw[List.take_length] at h9;exact h9
 have aT:am.length=n:=ap.1.trans aa.1;have hRl12:=aj.len;have bs:ac.n=n:=aj.rows.trans aT;refine zza 17 (.v (.tuple #[ac.v,.int .i64 0])) (zza 21 (.v (ac.v)) (zza 22 (zI 0) (zza 8 (.v (ac.v)) (zza 9 (zI 0) (zzb (zzd (sq9 (zza 23 (zI 0) (zza 24 (zB false) (zzb (zyr xj ?_)))))))))));refine zzr (zzo ?_);refine sq9 (zza 28 (zI n) (zza 29 (zI b) (zzg 30 35 _ fun _ _ az bR=>qym (k_r37matrix (n:=n) (k:=b) bR xq xq xq hG) ?_)));rintro _ u18 aA ⟨ad,au,ax,rfl,ay,aw⟩;have aS:ax.length=n:=aw.1.trans (dmM_len n b);have bn:ad.n=n:=ay.rows.trans aS;have hRl17:=ay.len;refine zza 27 (.v (.tuple #[ad.v,.int .i64 0])) (zza 31 (.v (ad.v)) (zza 32 (zI 0) (zza 10 (.v (ad.v)) (zza 9 (zI 0) (zzb (zzd (sq9 (zza 33 (zI 0) (zza 34 (zB false) (zzb (zyr xj ?_)))))))))));refine zzr (zzo ?_);refine sq9 (zzg 37 14 _ fun _ _ ak bv=>qym (k_rqOf bv (z:=0) xq xq) ?_);rintro _ bu al ⟨bj,rfl,bQ⟩;refine zzj 11 ⟨35,zw3⟩ (zzi ⟨35,bj.cs⟩ ty35 ?_);refine zzb (zzd (sq9 (zza 12 (zI 0) (zzb (zzs (zym (I:=fun bp S' u'=>∃(i:Nat) (ri:RL),(bp=n-i)∧(i≤n)∧(S'=St.of 90 [(1,zI n),(6,.adr 6 0),(8,.v (ac.v)),(10,.v (ad.v)),(11,.adr 11 0),(12,zI i)] [(6,⟨35,zw3⟩),(11,⟨35,ri.cs⟩)])∧(Ext bu u')∧(RatN u' ri (dsA n b S i) 9000)) (fun m S u1 u2 e h=>by obtain⟨i,ri,hm,p0,hS,hE,f0⟩:=h;exact⟨i,ri,hm,p0,hS,hE.trans e,f0.ext e⟩) _ yq ⟨0,bj,rfl,Nat.zero_le _,rfl,(Ext.refl _),(RatN.more (K:=2) bQ xq)⟩ ?_))))));rintro bp _ bM ⟨i,ri,bN,hi,rfl,ai,a5⟩;refine zzd (sq9 (zza 38 (zI i) (zza 39 (zI n) (zza 40 (zB (decide ((i:Int)<(n:Int)))) (zzb (zzt (b:=decide ((i:Int)<(n:Int))) xj (fun aE=>?_) (fun aE=>?_)))))))
 ·have qhb28:=qyt aE;refine zzr (zzo ?_);refine zzd (zzs (sq9 (zza 13 (zI 0) (zzb (zzs (zym (I:=fun br S' u'=>∃(j:Nat) (rj:RL),(br=n-j)∧(j≤n)∧(S'=St.of 90 [(1,zI n),(6,.adr 6 0),(8,.v (ac.v)),(10,.v (ad.v)),(11,.adr 11 0),(12,zI i),(13,zI j)] [(6,⟨35,zw3⟩),(11,⟨35,rj.cs⟩)])∧(Ext bM u')∧(RatN u' rj (dsR n b S i (dsA n b S i) j) 9000)) (fun m S u1 u2 e h=>by obtain⟨j,rj,hm,p0,hS,hE,f0⟩:=h;exact⟨j,rj,hm,p0,hS,hE.trans e,f0.ext e⟩) _ yq ⟨0,ri,rfl,Nat.zero_le _,rfl,(Ext.refl _),(RatN.more (K:=9000) a5 xq)⟩ ?_))))));rintro br _ u29 ⟨j,rj,bI,hj,rfl,ah,a3⟩;refine zzd (sq9 (zza 43 (zI j) (zza 44 (zI n) (zza 45 (zB (decide ((j:Int)<(n:Int)))) (zzc 90 [(1,zI n),(6,.adr 6 0),(8,.v (ac.v)),(10,.v (ad.v)),(11,.adr 11 0),(12,zI i),(13,zI j),(45,zB (decide ((j:Int)<(n:Int))))] [(6,⟨35,zw3⟩),(11,⟨35,rj.cs⟩)] (zzt (b:=decide ((j:Int)<(n:Int))) xj (fun aG=>?_) (fun aG=>?_)))))))
  ·have qhb30:=qyt aG;refine zzr (zzo ?_);refine zzd (zzs (zzd (zzy [0,0,3,7,0,31,63,0,0,384,896,0,3968,8064,16383,0,0,98304,229376,0,1015808,2064384,4194303,0,16777215] [(0,[]),(1,[]),(2,[]),(3,[]),(4,[]),(5,[]),(6,[]),(7,[]),(8,[]),(9,[]),(10,[]),(11,[]),(12,[]),(13,[]),(15,[]),(16,[]),(17,[]),(18,[]),(19,[]),(20,[]),(21,[]),(23,[]),(14,[]),(22,[]),(24,[])] xj xj (zza 48 (.v (ac.v)) (zza 49 (zI i) ?_)))));obtain⟨b31,a4,bf⟩:=MatQ.cell (i:=i) (aj.ext (az.t (aA.t (ak.t (al.t (ai.trans ah)))))) xq;refine zzz 50 (0+i*1) (n:=ac.n) (off:=0) (sz:=1) (i:=(i:Int)) xq a4 xq xq sl57 ?_;have hrw32:=MatQ.row (aj.ext (az.t (aA.t (ak.t (al.t (ai.trans ah)))))) i xq;have aP:(ab.getD i sl0).n=n:=by rw[MutQ.rown hrw32,MatN.rowlen (ap.ext (az.t (aA.t (ak.t (al.t (ai.trans ah)))))) (by rw[aa.1];omega)];exact aa.2 i xq
   have bk:(am.getD i []).length=n:=by rw[←MutQ.rown hrw32];exact aP
   refine zyk 51 (.slice (ab.getD i sl0).a (ab.getD i sl0).n (ab.getD i sl0).c) bf ty63 (zza 52 (zI j) ?_);obtain⟨b33,a8,aN⟩:=MutQ.el1 (j:=j) hrw32 xq;refine zzz 53 (0+j*3) (n:=(ab.getD i sl0).n) (off:=0) (sz:=3) (i:=(j:Int)) xq a8 xq xq sl63 ?_;obtain⟨bD,aY⟩:∃r:RL,(am.getD i []).getD j rl0=r:=⟨_,rfl⟩
   rw[aY] at aN;have hv36:=(MatN.at (i:=i) (j:=j) (ap.ext (az.t (aA.t (ak.t (al.t (ai.trans ah)))))) (by rw[aa.1];omega) (by rw[aa.2 i xq];omega))
   rw[aY] at hv36;refine zyl 54 (bD.cs) aN ty35 (zza 55 (.v (ac.v)) (zza 56 (zI i) ?_));obtain⟨b37,ba,a2⟩:=MatQ.cell (i:=i) (aj.ext (az.t (aA.t (ak.t (al.t (ai.trans ah)))))) xq;refine zzz 57 (0+i*1) (n:=ac.n) (off:=0) (sz:=1) (i:=(i:Int)) xq ba xq xq sl57 ?_;have hrw38:=MatQ.row (aj.ext (az.t (aA.t (ak.t (al.t (ai.trans ah)))))) i xq;have aO:(ab.getD i sl0).n=n:=by rw[MutQ.rown hrw38,MatN.rowlen (ap.ext (az.t (aA.t (ak.t (al.t (ai.trans ah)))))) (by rw[aa.1];omega)];exact aa.2 i xq
   have bh:(am.getD i []).length=n:=by rw[←MutQ.rown hrw38];exact aO
   refine zyk 58 (.slice (ab.getD i sl0).a (ab.getD i sl0).n (ab.getD i sl0).c) a2 ty63 (zza 59 (zI j) ?_);obtain⟨b39,a6,aQ⟩:=MutQ.el1 (j:=j) hrw38 xq;refine zzz 60 (0+j*3) (n:=(ab.getD i sl0).n) (off:=0) (sz:=3) (i:=(j:Int)) xq a6 xq xq sl63 ?_;obtain⟨bL,aU⟩:∃r:RL,(am.getD i []).getD j rl0=r:=⟨_,rfl⟩
   rw[aU] at aQ;have hv42:=(MatN.at (i:=i) (j:=j) (ap.ext (az.t (aA.t (ak.t (al.t (ai.trans ah)))))) (by rw[aa.1];omega) (by rw[aa.2 i xq];omega))
   rw[aU] at hv42;refine zyl 61 (bL.cs) aQ ty35 (zza 63 (.v (ad.v)) (zza 64 (zI i) ?_));obtain⟨b43,bb,bg⟩:=MatQ.cell (i:=i) (ay.ext (ak.t (al.t (ai.trans ah)))) xq;refine zzz 65 (0+i*1) (n:=ad.n) (off:=0) (sz:=1) (i:=(i:Int)) xq bb xq xq sl60 ?_;have hrw44:=MatQ.row (ay.ext (ak.t (al.t (ai.trans ah)))) i xq;have bl:(ax.getD i []).length=2*n:=by rw[MatN.rowlen (aw.ext (ak.t (al.t (ai.trans ah)))) (by rw[dmM_len];omega),dmM_at xq,dmRow_len]
   have bi:(au.getD i sl0).n=n:=by have h9:=hrw44.1;rw[zyx] at h9;omega
   refine zyk 66 (.slice (au.getD i sl0).a (au.getD i sl0).n (au.getD i sl0).c) bg ty66 (zza 67 (zI j) ?_);obtain⟨b45,a7,aB⟩:=MutQ.el2 (j:=j) hrw44 xq;refine zzz 68 (0+j*6) (n:=(au.getD i sl0).n) (off:=0) (sz:=6) (i:=(j:Int)) xq a7 xq xq sl66 ?_;obtain⟨bA,aL⟩:∃r:RL,(ax.getD i []).getD (2*j) rl0=r:=⟨_,rfl⟩
   rw[aL] at aB;obtain⟨bE,aR⟩:∃r:RL,(ax.getD i []).getD (2*j+1) rl0=r:=⟨_,rfl⟩
   rw[aR] at aB;have hv50:=(by have h9:=MatN.at (i:=i) (j:=2*j) (aw.ext (ak.t (al.t (ai.trans ah)))) (by rw[dmM_len];omega) (by rw[dmM_at xq,dmRow_len];omega);rewrite[dmD1 xq xq] at h9;exact h9)
   rw[aL] at hv50;have hv51:=(by have h9:=MatN.at (i:=i) (j:=2*j+1) (aw.ext (ak.t (al.t (ai.trans ah)))) (by rw[dmM_len];omega) (by rw[dmM_at xq,dmRow_len];omega);rewrite[dmD2 xq xq] at h9;exact h9)
   rw[aR] at hv51;refine zyl 69 (bA.cs++bE.cs) aB ty45 (zzj 14 ⟨45,zw6⟩ (zzg 62 37 _ fun _ _ aD bT=>qym (k_r4Make bT (hv36.ext aD).raw (hv42.ext aD).raw xq) ?_));rintro _ u57 aV ⟨r53,r55,rfl,bO,bB⟩;refine zzg 70 36 _ fun _ _ aF bF=>qym (k_r4Sub bF (bO.ext aF).raw (bB.ext aF).raw (hv50.ext xe).raw (hv51.ext xe).raw xq xq) ?_;rintro _ u65 be ⟨bq,bo,rfl,bH,bP⟩;refine zzi ⟨45,bq.cs++bo.cs⟩ ty45 ?_;refine zzb (zzd (zzy [0,1,3,0,8,31,63,127,0] [(0,[]),(1,[]),(3,[]),(4,[]),(8,[]),(2,[]),(5,[]),(6,[]),(7,[])] xj xj (zza 71 (.adr 14 0) (zzh 72 (.v (bq.v)) ty35 zze (zza 74 (.adr 14 3) (zzh 75 (.v (bo.v)) ty35 zze (zza 79 (zI 0) (zzg 73 38 _ fun _ _ aW bS=>qym (k_rqAbs bS (bH.ext aW).raw xq) ?_))))))));rintro _ u71 a0 ⟨af,rfl,bm⟩;refine zzg 76 38 _ fun _ _ aJ bJ=>qym (k_rqAbs bJ (bP.ext xe).raw xq) ?_;rintro _ u77 aX ⟨ae,rfl,bt⟩;refine sy_lit 77 ⟨35,af.cs++ae.cs⟩ 2 ?_;refine zza 78 (zI 2) (zzc 90 [(1,zI n),(6,.adr 6 0),(8,.v (ac.v)),(10,.v (ad.v)),(11,.adr 11 0),(12,zI i),(13,zI j),(77,.slc 77 0 2 2),(78,zI 2),(79,zI 0)] [(6,⟨35,zw3⟩),(11,⟨35,rj.cs⟩),(77,⟨35,af.cs++ae.cs⟩)] (zzs (sw_rounds 2 ?_)));refine sq9 (zza 80 (zB true) (zzb (zzd (zyq xj (zzr (zzo ?_))))));refine zzd (sw_joinP (I:=fun S' u'=>∃(ag:RL),(S'=St.of 90 [(1,zI n),(6,.adr 6 0),(8,.v (ac.v)),(10,.v (ad.v)),(11,.adr 11 0),(12,zI i),(13,zI j),(77,.slc 77 0 2 2),(78,zI 2),(79,zI 0)] [(6,⟨35,zw3⟩),(11,⟨35,ag.cs⟩),(77,⟨35,af.cs++ae.cs⟩)])∧(RatN u' ag (mxQ (dsR n b S i (dsA n b S i) j) (absQ (Nt.lo (Nt.lo (((linM n S).getD i []).getD j 0) (((linM n S).getD i []).getD j 0)) (Nt.hi (((linM n S).getD i []).getD j 0) (((linM n S).getD i []).getD j 0))-Nt.hi (dmE n b i j).1 (dmE n b i j).2))) 9000)) ?_ (fun ar=>?_))
   ·rintro _ bz aH ⟨ag,rfl,aM⟩;refine zzf (zza 88 (zI 1) (zza 79 (zI 1) (zzw ?_)));refine rn_next ?_;refine sw_weak (T:=St.of 90 [(1,zI n),(6,.adr 6 0),(8,.v (ac.v)),(10,.v (ad.v)),(11,.adr 11 0),(12,zI i),(13,zI j),(77,.slc 77 0 2 2),(78,zI 2),(79,zI 1)] [(6,⟨35,zw3⟩),(11,⟨35,ag.cs⟩),(77,⟨35,af.cs++ae.cs⟩)]) yq ?_;refine sq9 (zza 80 (zB true) (zzb (zzd (zyq xj (zzr (zzo ?_))))));refine zzd (sw_joinP (I:=fun S' u'=>∃(an:RL),(S'=St.of 90 [(1,zI n),(6,.adr 6 0),(8,.v (ac.v)),(10,.v (ad.v)),(11,.adr 11 0),(12,zI i),(13,zI j),(77,.slc 77 0 2 2),(78,zI 2),(79,zI 1)] [(6,⟨35,zw3⟩),(11,⟨35,an.cs⟩),(77,⟨35,af.cs++ae.cs⟩)])∧(RatN u' an (mxQ (mxQ (dsR n b S i (dsA n b S i) j) (absQ (Nt.lo (Nt.lo (((linM n S).getD i []).getD j 0) (((linM n S).getD i []).getD j 0)) (Nt.hi (((linM n S).getD i []).getD j 0) (((linM n S).getD i []).getD j 0))-Nt.hi (dmE n b i j).1 (dmE n b i j).2))) (absQ (Nt.hi (Nt.lo (((linM n S).getD i []).getD j 0) (((linM n S).getD i []).getD j 0)) (Nt.hi (((linM n S).getD i []).getD j 0) (((linM n S).getD i []).getD j 0))-Nt.lo (dmE n b i j).1 (dmE n b i j).2))) 9000)) ?_ (fun ao=>?_))
    ·rintro _ bC a9 ⟨an,rfl,bc⟩;refine zzf (zza 88 (zI 2) (zza 79 (zI 2) (zzw ?_)));refine rn_next ?_;refine sw_weak (T:=St.of 90 [(1,zI n),(6,.adr 6 0),(8,.v (ac.v)),(10,.v (ad.v)),(11,.adr 11 0),(12,zI i),(13,zI j),(77,.slc 77 0 2 2),(78,zI 2),(79,zI 2)] [(6,⟨35,zw3⟩),(11,⟨35,an.cs⟩),(77,⟨35,af.cs++ae.cs⟩)]) yq ?_;refine sq9 (zza 80 (zB false) (zzb (zzd (zyr xj (zyb (zzo (zzf (zza 46 (zI j) (qwi 47 ((j:Int)+1) (j+1:Nat) xk (zza 13 (zI (j+1:Nat)) (zzw ?_)))))))))));refine⟨_,?_,_,by exact zzu _ _ _,j+1,an,rfl,by omega,rfl,(ah.t (aD.t (aV.t (aF.t (be.t (aW.t (a0.t (aJ.t (aX.t (aH.trans a9)))))))))),(RatN.more (K:=9000) (L:=9000) (by have h9:=bc;rewrite[mx_as] at h9;exact h9) xq)⟩
     omega
    refine zzs (sq9 (zza 81 (.adr 77 3) (zzh 82 (.v (ae.v)) ty35 zze (zzj 16 ⟨35,zw3⟩ (zzi ⟨35,ae.cs⟩ ty35 ?_)))));refine zzb (sq9 (zzh 83 (.v (ae.v)) ty35 zze (zzh 84 (.v (ag.v)) ty35 zze (zzg 85 12 _ fun _ _ aK bw=>qym (k_rqCompare bw (bt.ext (aH.trans aK)).raw (aM.ext aK).raw xq xq) ?_))));rintro _ u85 aZ rfl;refine zza 86 (zB (decide ((0:Int)<(cmpQ (absQ (Nt.hi (Nt.lo (((linM n S).getD i []).getD j 0) (((linM n S).getD i []).getD j 0)) (Nt.hi (((linM n S).getD i []).getD j 0) (((linM n S).getD i []).getD j 0))-Nt.lo (dmE n b i j).1 (dmE n b i j).2)) (mxQ (dsR n b S i (dsA n b S i) j) (absQ (Nt.lo (Nt.lo (((linM n S).getD i []).getD j 0) (((linM n S).getD i []).getD j 0)) (Nt.hi (((linM n S).getD i []).getD j 0) (((linM n S).getD i []).getD j 0))-Nt.hi (dmE n b i j).1 (dmE n b i j).2))))))) (zzb (zzt (b:=decide ((0:Int)<(cmpQ (absQ (Nt.hi (Nt.lo (((linM n S).getD i []).getD j 0) (((linM n S).getD i []).getD j 0)) (Nt.hi (((linM n S).getD i []).getD j 0) (((linM n S).getD i []).getD j 0))-Nt.lo (dmE n b i j).1 (dmE n b i j).2)) (mxQ (dsR n b S i (dsA n b S i) j) (absQ (Nt.lo (Nt.lo (((linM n S).getD i []).getD j 0) (((linM n S).getD i []).getD j 0)) (Nt.hi (((linM n S).getD i []).getD j 0) (((linM n S).getD i []).getD j 0))-Nt.hi (dmE n b i j).1 (dmE n b i j).2)))))) xj (fun aq=>?_) (fun aq=>?_)))
    ·have qhb88:=qyt aq;refine zzf (zzh 87 (.v (ae.v)) ty35 zze (zzi ⟨35,ae.cs⟩ ty35 ?_));refine zzw ?_;refine zzo ?_;have hq89:=aq;rw[cmpQ_gt] at hq89;replace hq89:=qyt hq89;refine sw_weak (T:=St.of 90 [(1,zI n),(6,.adr 6 0),(8,.v (ac.v)),(10,.v (ad.v)),(11,.adr 11 0),(12,zI i),(13,zI j),(77,.slc 77 0 2 2),(78,zI 2),(79,zI 1)] [(6,⟨35,zw3⟩),(11,⟨35,ae.cs⟩),(77,⟨35,af.cs++ae.cs⟩)]) yq ?_;exact ao _ _ (aK.t aZ.ext) ⟨ae,rfl,(by rw[mx_t hq89];exact RatN.more (K:=(100+(5000+200+1)+2)) (bt.ext xe) xq)⟩
    have qhb88:=qyf aq;refine zzr (zzo ?_);have hq90:=aq;rw[cmpQ_gt] at hq90;replace hq90:=qyf hq90;refine sw_weak (T:=St.of 90 [(1,zI n),(6,.adr 6 0),(8,.v (ac.v)),(10,.v (ad.v)),(11,.adr 11 0),(12,zI i),(13,zI j),(77,.slc 77 0 2 2),(78,zI 2),(79,zI 1)] [(6,⟨35,zw3⟩),(11,⟨35,ag.cs⟩),(77,⟨35,af.cs++ae.cs⟩)]) yq ?_;exact ao _ _ (aK.t aZ.ext) ⟨ag,rfl,(by rw[mx_f hq90];exact RatN.more (K:=9000) (aM.ext xe) xq)⟩
   refine zzs (sq9 (zza 81 (.adr 77 0) (zzh 82 (.v (af.v)) ty35 zze (zzj 16 ⟨35,zw3⟩ (zzi ⟨35,af.cs⟩ ty35 ?_)))));refine zzb (sq9 (zzh 83 (.v (af.v)) ty35 zze (zzh 84 (.v (rj.v)) ty35 zze (zzg 85 12 _ fun _ _ aI bG=>qym (k_rqCompare bG (bm.ext xe).raw (a3.ext xe).raw xq xq) ?_))));rintro _ u92 a1 rfl;refine zza 86 (zB (decide ((0:Int)<(cmpQ (absQ (Nt.lo (Nt.lo (((linM n S).getD i []).getD j 0) (((linM n S).getD i []).getD j 0)) (Nt.hi (((linM n S).getD i []).getD j 0) (((linM n S).getD i []).getD j 0))-Nt.hi (dmE n b i j).1 (dmE n b i j).2)) (dsR n b S i (dsA n b S i) j))))) (zzb (zzt (b:=decide ((0:Int)<(cmpQ (absQ (Nt.lo (Nt.lo (((linM n S).getD i []).getD j 0) (((linM n S).getD i []).getD j 0)) (Nt.hi (((linM n S).getD i []).getD j 0) (((linM n S).getD i []).getD j 0))-Nt.hi (dmE n b i j).1 (dmE n b i j).2)) (dsR n b S i (dsA n b S i) j)))) xj (fun av=>?_) (fun av=>?_)))
   ·have qhb95:=qyt av;refine zzf (zzh 87 (.v (af.v)) ty35 zze (zzi ⟨35,af.cs⟩ ty35 ?_));refine zzw ?_;refine zzo ?_;have hq96:=av;rw[cmpQ_gt] at hq96;replace hq96:=qyt hq96;refine sw_weak (T:=St.of 90 [(1,zI n),(6,.adr 6 0),(8,.v (ac.v)),(10,.v (ad.v)),(11,.adr 11 0),(12,zI i),(13,zI j),(77,.slc 77 0 2 2),(78,zI 2),(79,zI 0)] [(6,⟨35,zw3⟩),(11,⟨35,af.cs⟩),(77,⟨35,af.cs++ae.cs⟩)]) yq ?_;exact ar _ _ (aI.t a1.ext) ⟨af,rfl,(by rw[mx_t hq96];exact RatN.more (K:=(100+(5000+200+1)+2)) (bm.ext xe) xq)⟩
   have qhb95:=qyf av;refine zzr (zzo ?_);have hq97:=av;rw[cmpQ_gt] at hq97;replace hq97:=qyf hq97;refine sw_weak (T:=St.of 90 [(1,zI n),(6,.adr 6 0),(8,.v (ac.v)),(10,.v (ad.v)),(11,.adr 11 0),(12,zI i),(13,zI j),(77,.slc 77 0 2 2),(78,zI 2),(79,zI 0)] [(6,⟨35,zw3⟩),(11,⟨35,rj.cs⟩),(77,⟨35,af.cs++ae.cs⟩)]) yq ?_;exact ar _ _ (aI.t a1.ext) ⟨rj,rfl,(by rw[mx_f hq97];exact RatN.more (K:=9000) (a3.ext xe) xq)⟩
  have qhb30:=qyf aG;refine zyb (zzo (zzf (zza 41 (zI i) (qwi 42 ((i:Int)+1) (i+1:Nat) xk (zza 12 (zI (i+1:Nat)) (zzw ?_))))));have hjn:j=n:=by omega
  refine⟨_,?_,_,by exact zzu _ _ _,i+1,rj,rfl,by omega,rfl,(ai.trans ah),(by have h9:=a3;rw[hjn] at h9;exact h9)⟩
  omega
 have qhb28:=qyf aE;refine zyb (zzo (sq9 (zzh 89 (.v (ri.v)) ty35 zze (zzi ⟨35,ri.cs⟩ ty35 ?_))));refine zza 7 (zI 0) (zzc 90 [(6,.adr 6 0),(7,zI 0)] [(6,⟨35,ri.cs⟩)] (zzn (ret0 [ri.v,.int .i64 0] ⟨zzq ty35 zze,zzp,trivial⟩ fun u98 bx=>?_)));have hin:i=n:=by omega
 rw[hin] at a5;exact⟨ri,rfl,(a5.ext bx)⟩
end Go.Proofs.YtcpnfblekhgmgaaGreat
namespace Go.Proofs.YtcpnfblekhgmgaaGreat
open Nt
namespace Nt
theorem c64_of{p q:Nat}{z:Int}(hq:0<q)(hp:2*p≤q)(h1:xLo (cs8 p q)/u2 64=z)(h2:xHi (cs8 p q)/u2 64=z):flo (coN p q) 64=z:=flo_of2 (w:=128) (cs8_ok hq hp) xw h1 h2
def z14:Int:=13043817825332782212
def z18:Int:=17042569291174129989
def z38:Int:=7059263338087549766
def z116:Int:=18092295058859852118
def z716:Int:=3598781241489102188
theorem c_14:flo (coN 1 4) 64=z14:=c64_of xw xw (by decide +kernel) (by decide +kernel)
theorem c_18:flo (coN 1 8) 64=z18:=c64_of xw xw (by decide +kernel) (by decide +kernel)
theorem c_28:flo (coN 2 8) 64=z14:=c64_of xw xw (by decide +kernel) (by decide +kernel)
theorem c_38:flo (coN 3 8) 64=z38:=c64_of xw xw (by decide +kernel) (by decide +kernel)
theorem c_616:flo (coN 6 16) 64=z38:=c64_of xw xw (by decide +kernel) (by decide +kernel)
theorem c_116:flo (coN 1 16) 64=z116:=c64_of xw xw (by decide +kernel) (by decide +kernel)
theorem c_1432:flo (coN 14 32) 64=z716:=c64_of xw xw (by decide +kernel) (by decide +kernel)
def gz(z:Int):Rat×Rat:=(gr 64 z,gr 64 (z+1))
theorem cv_g{p:Int}{r q:Nat}{z:Int}(h:fold p q=r)(h2:¬q<2*r)(h0:¬r=0)(h1:¬2*r=q)(h3:¬3*r=q)(hz:flo (coN r q) 64=z):cosV p q 64=gz z:=by
 rw[cosV_lo h h2,cosA_g h0 h1 h3,hz];rfl
def tzC(s c:Int)(k:Nat):Int:=coZ ((divO (gz s).1 (gz s).2 (gz c).1 (gz c).2).getD (0,0)).1 ((divO (gz s).1 (gz s).2 (gz c).1 (gz c).2).getD (0,0)).2 k
def szC(s:Int)(k:Nat):Int:=coZ (gz s).1 (gz s).2 k
theorem roT_4(k:Nat):roT 1 4 k=tzC z38 z18 k:=by
 unfold roT rTA rSH rCH tzC
 rw[cv_g (p:=((2*4:Nat):Int)-2*((1:Nat):Int)) (r:=6) (by decide +kernel) xw xw xw xw c_616,cv_g (p:=((1:Nat):Int)) (r:=1) (q:=2*4) (by decide +kernel) xw xw xw xw c_18]
theorem roS_4(k:Nat):roS 1 4 k=szC z14 k:=by
 unfold roS rSI szC
 rw[cv_g (p:=((4:Nat):Int)-2*((1:Nat):Int)) (r:=2) (by decide +kernel) xw xw xw xw c_28]
theorem roT_8(k:Nat):roT 1 8 k=tzC z716 z116 k:=by
 unfold roT rTA rSH rCH tzC
 rw[cv_g (p:=((2*8:Nat):Int)-2*((1:Nat):Int)) (r:=14) (by decide +kernel) xw xw xw xw c_1432,cv_g (p:=((1:Nat):Int)) (r:=1) (q:=2*8) (by decide +kernel) xw xw xw xw c_116]
theorem roS_8(k:Nat):roS 1 8 k=szC z38 k:=by
 unfold roS rSI szC
 rw[cv_g (p:=((8:Nat):Int)-2*((1:Nat):Int)) (r:=6) (by decide +kernel) xw xw xw xw c_616]
def roC(i j:Nat)(t s:Int)(k:Nat):List (List Int):=[[(i:Int),(j:Int),t,(k:Int)],[(j:Int),(i:Int),-s,(k:Int)],[(i:Int),(j:Int),t,(k:Int)],[(j:Int),(j:Int),0,-2]]
def cosC(n k:Nat)(t s t8 s8:Int):List (List Int):=if n=2 then roC 0 1 t s k else if n=4 then roC 0 3 t s k++roC 1 2 t s k++roC 0 1 t s k++roC 3 2 t8 s8 k++[[1,3,0,(-1)],[2,3,0,(-1)]] else []
theorem cosL_c(n k:Nat):cosL n k=cosC n k (tzC z38 z18 k) (szC z14 k) (tzC z716 z116 k) (szC z38 k):=by
 unfold cosL cosC roL roC
 rw[roT_4,roS_4,roT_8,roS_8]
-- the matrix
theorem rt_ev{q:Rat}{N:Nat}{ex:Bool}(h1:N^2≤rtD q 2 64)(h2:rtD q 2 64<(N+1)^2)(h3:decide (q.num.natAbs*2^(2*64)%q.den=0∧N^2=rtD q 2 64)=ex):gr 64 (rtN q 2 64:Int)=gr 64 (N:Int)∧gr 64 (rtH q 2 64)=gr 64 (if ex then(N:Int) else(N:Int)+1):=by
 have e:rtN q 2 64=N:=(irt_uniq xw h1 h2).symm;refine⟨by rw[e],?_⟩
 unfold rtH
 have e2:rtX q 2 64↔(q.num.natAbs*2^(2*64)%q.den=0∧N^2=rtD q 2 64):=by unfold rtX;rw[e]
 by_cases h:rtX q 2 64
 ·rw[if_pos h,←h3,decide_eq_true (e2.1 h),e];rfl
 rw[if_neg h,←h3,decide_eq_false (fun x=>h (e2.2 x)),e];rfl
def sC(n k:Nat):Rat×Rat:=if n=1 then(if k=0 then(1,1) else(gr 64 26087635650665564424,gr 64 26087635650665564425)) else if n=2 then(if k=0 then(gr 64 13043817825332782212,gr 64 13043817825332782213) else(1,1)) else(if k=0 then(1/2,1/2) else(gr 64 13043817825332782212,gr 64 13043817825332782213))
theorem dmS_c{n k:Nat}(hn:n=1∨n=2∨n=4):dmS n 64 k=sC n k:=by
 have r1:=rt_ev (q:=((1:Int):Rat)/((1:Int):Rat)) (N:=18446744073709551616) (ex:=true) (by decide +kernel) (by decide +kernel) (by decide +kernel);have r2:=rt_ev (q:=((2:Int):Rat)/((1:Int):Rat)) (N:=26087635650665564424) (ex:=false) (by decide +kernel) (by decide +kernel) (by decide +kernel);have r3:=rt_ev (q:=((1:Int):Rat)/((2:Int):Rat)) (N:=13043817825332782212) (ex:=false) (by decide +kernel) (by decide +kernel) (by decide +kernel);have r4:=rt_ev (q:=((2:Int):Rat)/((2:Int):Rat)) (N:=18446744073709551616) (ex:=true) (by decide +kernel) (by decide +kernel) (by decide +kernel);have r5:=rt_ev (q:=((1:Int):Rat)/((4:Int):Rat)) (N:=9223372036854775808) (ex:=true) (by decide +kernel) (by decide +kernel) (by decide +kernel);have r6:=rt_ev (q:=((2:Int):Rat)/((4:Int):Rat)) (N:=13043817825332782212) (ex:=false) (by decide +kernel) (by decide +kernel) (by decide +kernel)
 unfold dmS sC
 rcases hn with rfl|rfl|rfl
 ·by_cases h:k=0
  ·simp only[if_pos h,if_true];rw[show((1:Nat):Int)=1 from rfl,r1.1,r1.2];decide +kernel
  simp only[if_neg h,if_true];rw[show((1:Nat):Int)=1 from rfl,r2.1,r2.2];decide +kernel
 ·by_cases h:k=0
  ·simp only[if_pos h];rw[show((2:Nat):Int)=2 from rfl,r3.1,r3.2];decide +kernel
  simp only[if_neg h];rw[show((2:Nat):Int)=2 from rfl,r4.1,r4.2];decide +kernel
 by_cases h:k=0
 ·simp only[if_pos h];rw[show((4:Nat):Int)=4 from rfl,r5.1,r5.2];decide +kernel
 simp only[if_neg h];rw[show((4:Nat):Int)=4 from rfl,r6.1,r6.2];decide +kernel
def aC(n r:Nat):Rat×Rat:=if r=0 then(1,1) else if r=n then(0,0) else gz (if n=2 then z14 else if r=1 then z18 else if r=2 then z14 else z38)
theorem cosA_c{n r:Nat}(hn:n=1∨n=2∨n=4)(hr:r≤n):cosA r (2*n) 64=aC n r:=by
 unfold aC cosA
 by_cases h0:r=0
 ·rw[if_pos h0,if_pos h0]
 rw[if_neg h0,if_neg h0]
 by_cases h1:r=n
 ·rw[if_pos h1,if_pos xq]
 rw[if_neg h1,if_neg xq,if_neg xq]
 unfold gz
 rcases hn with rfl|rfl|rfl
 ·omega
 ·obtain rfl:r=1:=by omega
  rw[c_14];rfl
 obtain rfl|rfl|rfl:r=1∨r=2∨r=3:=by omega
 ·rw[c_18];rfl
 ·rw[c_28];rfl
 rw[c_38];rfl
def cC(n p:Nat):Rat×Rat:=if 2*n<2*fold (p:Int) (2*n) then(-(aC n (2*n-fold (p:Int) (2*n))).2,-(aC n (2*n-fold (p:Int) (2*n))).1) else aC n (fold (p:Int) (2*n))
theorem dmC_c{n p:Nat}(hn:n=1∨n=2∨n=4):dmC n 64 p=cC n p:=by
 have hf:=fold_le (p:Int) (2*n) xq
 unfold dmC cosV cosF cC
 split
 ·rw[cosA_c hn xq]
 exact cosA_c hn xq
def eC(n k j:Nat):Rat×Rat:=(lo4 ((sC n k).1*(cC n ((2*j+1)*k)).1) ((sC n k).1*(cC n ((2*j+1)*k)).2) ((sC n k).2*(cC n ((2*j+1)*k)).1) ((sC n k).2*(cC n ((2*j+1)*k)).2),hi4 ((sC n k).1*(cC n ((2*j+1)*k)).1) ((sC n k).1*(cC n ((2*j+1)*k)).2) ((sC n k).2*(cC n ((2*j+1)*k)).1) ((sC n k).2*(cC n ((2*j+1)*k)).2))
theorem dmE_c{n:Nat}(hn:n=1∨n=2∨n=4)(k j:Nat):dmE n 64 k j=eC n k j:=by unfold dmE eC;rw[dmS_c hn,dmC_c hn]
def dgR(M:List (List Rat))(E:Nat→Nat→Rat×Rat)(i:Nat)(m:Rat):Nat→Rat
 | 0=>m
 | j+1=>mxQ (dgR M E i m j) (mxQ (dsL ((M.getD i []).getD j 0) (E i j).1 (E i j).2) (dsH ((M.getD i []).getD j 0) (E i j).1 (E i j).2))
def dgA(n:Nat)(M:List (List Rat))(E:Nat→Nat→Rat×Rat):Nat→Rat
 | 0=>((0:Int):Rat)
 | i+1=>dgR M E i (dgA n M E i) n
theorem dgR_eq(n b:Nat)(S:List (List Int))(i:Nat)(m:Rat):∀j,dsR n b S i m j=dgR (linM n S) (dmE n b) i m j
 | 0=>rfl
 | j+1=>by rw[dsR,dgR,dgR_eq n b S i m j]
theorem dgA_eq(n b:Nat)(S:List (List Int)):∀i,dsA n b S i=dgA n (linM n S) (dmE n b) i
 | 0=>rfl
 | i+1=>by rw[dsA,dgA,dgA_eq n b S i,dgR_eq]
def nearB(M:List (List Rat))(E:Nat→Nat→Rat×Rat)(n:Nat)(d:Rat):Bool:=(List.range n).all fun i=>(List.range n).all fun j=>decide (dsL ((M.getD i []).getD j 0) (E i j).1 (E i j).2<d)&&decide (dsH ((M.getD i []).getD j 0) (E i j).1 (E i j).2<d)
theorem nearB_R{M:List (List Rat)}{E:Nat→Nat→Rat×Rat}{n:Nat}{d m:Rat}(h:nearB M E n d=true){i:Nat}(hi:i<n)(hm:m<d):∀j,j≤n→dgR M E i m j<d
 | 0,_=>hm
 | j+1,hj=>by
  have h1:=List.all_eq_true.1 (List.all_eq_true.1 h i (List.mem_range.2 hi)) j (List.mem_range.2 xq);rw[Bool.and_eq_true] at h1;have h2:=qyt h1.1;have h3:=qyt h1.2;have h4:=nearB_R h hi hm j xq;rw[dgR]
  unfold mxQ
  (repeat' split)<;>assumption
theorem nearB_A{M:List (List Rat)}{E:Nat→Nat→Rat×Rat}{n:Nat}{d:Rat}(h:nearB M E n d=true)(hd:((0:Int):Rat)<d):∀i,i≤n→dgA n M E i<d
 | 0,_=>hd
 | i+1,hi=>by rw[dgA];exact nearB_R h xq (nearB_A h hd i xq) n (Nat.le_refl n)
def nearK(n m:Nat):Bool:=nearB (linM n (cosC n (4+m) (tzC z38 z18 (4+m)) (szC z14 (4+m)) (tzC z716 z116 (4+m)) (szC z38 (4+m)))) (eC n) n (1/((((2^m:Nat)):Int):Rat))
theorem near_1:((List.range 16).all (nearK 1))=true:=by decide +kernel
theorem near_2:((List.range 16).all (nearK 2))=true:=by decide +kernel
theorem near_4:((List.range 16).all (nearK 4))=true:=by decide +kernel
theorem dist_ok{n m:Nat}(hn:n=1∨n=2∨n=4)(hm:m<16):dsA n 64 (cosL n (4+m)) n*(((2^m:Nat):Int):Rat)<((1:Int):Rat):=by
 have h:nearK n m=true:=by
  rcases hn with rfl|rfl|rfl
  ·exact List.all_eq_true.1 near_1 m (List.mem_range.2 hm)
  ·exact List.all_eq_true.1 near_2 m (List.mem_range.2 hm)
  exact List.all_eq_true.1 near_4 m (List.mem_range.2 hm)
 have hp:(0:Rat)<(((2^m:Nat):Int):Rat):=castI_pos (Int.ofNat_lt.2 (Nat.pow_pos xw));have hd:((0:Int):Rat)<1/(((2^m:Nat):Int):Rat):=by rw[Rat.div_def,Rat.one_mul];exact Rat.inv_pos.2 hp
 have k:=nearB_A h hd n (Nat.le_refl n);rw[dgA_eq,cosL_c,show dmE n 64=eC n from funext fun i=>funext fun j=>dmE_c hn i j];have:=Rat.mul_lt_mul_of_pos_right k hp;rw[Rat.div_mul_cancel (by grind)] at this;exact this
end Nt
open Go.RowKit
theorem neq4(w:World)(x y:Operand)(a b c d:Int):(do eqGuard .neq 28 x y (.agg #[.int .i64 a,.int .i64 b,.int .i64 c,.int .i64 d]) (.agg #[.int .i64 a,.int .i64 b,.int .i64 c,.int .i64 d]);binOp .neq 28 (.agg #[.int .i64 a,.int .i64 b,.int .i64 c,.int .i64 d]) (.agg #[.int .i64 a,.int .i64 b,.int .i64 c,.int .i64 d]):Sem Value).run Tryz.prog w=.ok (.bool false) w:=by
 have hg:Tryz.prog.eqGuardType Tryz.prog.depth 28=false:=by kernel_rfl
 have a1:(isAgg 3).run Tryz.prog w=.ok false w:=by kernel_rfl
 have hst:Tryz.prog.stoodInHeld 28=false:=by kernel_rfl
 have hf : Tryz.prog.fieldsOf 28 = #[{ name := "To", type := 3, offset := 0, embedded := false, tag := "", pkgPath := "", byteOffset := 0 }, { name := "From", type := 3, offset := 1, embedded := false, tag := "", pkgPath := "", byteOffset := 8 }, { name := "Coef", type := 3, offset := 2, embedded := false, tag := "", pkgPath := "", byteOffset := 16 }, { name := "Shift", type := 3, offset := 3, embedded := false, tag := "", pkgPath := "", byteOffset := 24 }] := by unfold Program.fieldsOf; rw [Tryz.underlying28]
 have hu:Tryz.prog.underlying 28=some (.struct (Tryz.prog.fieldsOf 28)):=by rw[hf];exact Tryz.underlying28
 have key:(Op.equalIn 10000 28 (.agg #[.int .i64 a,.int .i64 b,.int .i64 c,.int .i64 d]) (.agg #[.int .i64 a,.int .i64 b,.int .i64 c,.int .i64 d])).run Tryz.prog w=.ok true w:=by
  refine(run_equalIn_agg w 9999 28 _ _ hu hst).trans ?_;rw[hf];have e:(9999:Nat)=9998+1:=rfl;rw[e]
  simp[Op.eqFields,part,a1,go_sem]
 rw[Sem.run_bind,run_eqGuard_agg w .neq 28 x y _ _ hg,Result.andThen_ok,run_neq_struct,key]
 rfl
section
variable {ops:Array Oper} {w0:Base} {u0:World} {S:St} {u:World} {o:Oper} {p:List Tmp} {seq:Bool} {rest:List (Oper×List Tmp)} {K:St→World→Prop}
theorem sy_neq4(d:Tmp){T2:TypeId}{x y:Operand}{a1 a2 a3 a4:Int}(kk:sym Tryz.prog ops w0 u0 seq rest (S.set d (.v (.bool false))) u K)(hw:Wants ops o S:=by exact zwf xj)(hd:o.dst=some d:=by kernel_rfl)(hop:o.op=.binOp .neq 28 x y T2:=by rfl)(hf:freeB S d=true:=by kernel_rfl)
  (hx:evO S x=some (.v (.agg #[.int .i64 a1,.int .i64 a2,.int .i64 a3,.int .i64 a4])):=by rfl) (hy:evO S y=some (.v (.agg #[.int .i64 a1,.int .i64 a2,.int .i64 a3,.int .i64 a4])):=by rfl):sym Tryz.prog ops w0 u0 seq ((o,p)::rest) S u K:=by
 refine .inl ⟨by rw[hop];exact(by decide:(0:Nat)≠2),.set (.v (.bool false)),⟨zxx hd hf,.inl ⟨(fun t ht=>by cases ht),fun B a w u' hr he hdt=>⟨hw B a hr,?_⟩⟩⟩,?_⟩
 ·have e1:(execOp a.eval o).run Tryz.prog w=(do pure (Next.value (←(do eqGuard .neq 28 x y (a.eval x) (a.eval y);binOp .neq 28 (a.eval x) (a.eval y)))):Sem Next).run Tryz.prog w:=by unfold execOp;rw[hop]
  rw[e1,ev_eval hr hx,ev_eval hr hy];exact run_val (neq4 w x y a1 a2 a3 a4)
 show sym Tryz.prog ops w0 u0 seq rest (S.put o.dst (some _)) u K;rw[hd];exact kk
end
theorem k_dcosineB{u w:World}{n k:Int}(d:Dat u w)(hbad:¬(1≤k∧k≤20∧(n=1∨n=2∨n=4))):qyc 6 #[.int .i64 n,.int .i64 k] w (Post u w fun v _=>v=.tuple #[qyn,.int .i64 1]):=by
 refine zzl Tryz.func6 rfl Tryz.ntmps6 Tryz.results6 d ?_;refine sq9 (zzj 3 ⟨3,[.int .i64 k]⟩ (zza 4 (.v (qyn)) (zza 5 (zI 0) (zzb (zzd (sq9 (zzh 8 (zI k) ty3 zzk (zza 9 (zB (decide (k<1))) ?_))))))))
 rcases Bool.eq_false_or_eq_true (decide (k<1)) with hs11|hs11
 ·refine qbi 10 hs11 ?_;have qhs11:=qyt hs11;refine zzm 11 (uw 2 false true 10) (zzm 12 (uw 2 false true 10) (zza 13 (zB true) (zzb (zyq xj (sq9 (zza 4 (.v (qyn)) (zza 5 (zI 1) (zzb (zzn (zzv (ret0 [qyn,.int .i64 1] ⟨zzp,zzp,trivial⟩ fun u12 e13=>?_)))))))))))
  rfl
 refine qbi 10 hs11 ?_;have qhs11:=qyf hs11;refine zzh 11 (zI k) ty3 zzk ?_ (hw:=w1 2 false 10);refine zza 12 (zB (decide ((20:Int)<k))) ?_ (hw:=w1 2 false 10);refine zza 13 (zB (decide ((20:Int)<k))) (zzb (zzt (b:=decide ((20:Int)<k)) xj (fun aa=>?_) (fun aa=>?_)))
 ·have qhb14:=qyt aa;refine sq9 (zza 4 (.v (qyn)) (zza 5 (zI 1) (zzb (zzn (zzv (ret0 [qyn,.int .i64 1] ⟨zzp,zzp,trivial⟩ fun u15 e16=>?_))))))
  rfl
 have qhb14:=qyf aa;refine zzr (zzo ?_);refine zzd (sw_pubA (r:=3) (t:=3) [3] xz xj (by rfl) (by rfl) xj (fun ae u18 e19 ah ag af=>?_));refine zzf (sy_fun 14 [.pointer (some ⟨ae,0,none⟩)] ?_);refine zza 6 (.v (.func (.func 25) #[] #[.pointer (some ⟨ae,0,none⟩)])) (zzb (zzd (sq9 (zza 15 (zI n) (zzb (zzs (sq9 (zza 17 (zB (n==1)) (zza 16 (zB (n==1)) (zzb (zzt (b:=n==1) xj (fun ab=>?_) (fun ab=>?_))))))))))))
 ·refine zzd ?_
  exfalso;have h9hs11:=hs11;simp at h9hs11;have h9hb14:=aa;simp at h9hb14;have h9hb23:=ab;simp at h9hb23;omega
 refine sq9 (zza 19 (zB (n==2)) (zza 18 (zB (n==2)) (zzb (zzt (b:=n==2) xj (fun ac=>?_) (fun ac=>?_)))))
 ·refine zzd ?_
  exfalso;have h9hs11:=hs11;simp at h9hs11;have h9hb14:=aa;simp at h9hb14;have h9hb23:=ab;simp at h9hb23;have h9hb24:=ac;simp at h9hb24;omega
 refine sq9 (zza 23 (zB (n==4)) (zza 22 (zB (n==4)) (zzb (zzt (b:=n==4) xj (fun ad=>?_) (fun ad=>?_)))))
 ·refine zzd ?_
  exfalso;have h9hs11:=hs11;simp at h9hs11;have h9hb14:=aa;simp at h9hb14;have h9hb23:=ab;simp at h9hb23;have h9hb24:=ac;simp at h9hb24;have h9hb25:=ad;simp at h9hb25;omega
 refine zzr (zzo ?_);refine sq9 (zza 4 (.v (qyn)) (zza 5 (zI 1) (zzb (zzn (ret0 [qyn,.int .i64 1] ⟨zzp,zzp,trivial⟩ fun u26 e27=>?_)))))
 rfl
theorem k_r37cosineB{u w:World}{n k:Int}(d:Dat u w)(hbad:¬(1≤k∧k≤20∧(n=1∨n=2∨n=4))):qyc 7 #[.int .i64 n,.int .i64 k] w (Post u w fun v _=>v=.tuple #[qyn,.int .i64 1]):=by
 refine zzl Tryz.func7 rfl Tryz.ntmps7 Tryz.results7 d ?_;refine sq9 (zza 4 (.v (qyn)) (zza 5 (zI 0) (zzb (zzd (sq9 (zza 11 (zI n) (zza 12 (zB (n != 1)) ?_)))))))
 rcases Bool.eq_false_or_eq_true (n != 1) with hs11|hs11
 ·refine qbi 13 hs11 (zza 14 (zI n) ?_ (hw:=w1 2 true 13));refine zza 15 (zB (n != 2)) ?_ (hw:=w1 2 true 13);refine zza 16 (zB (n != 2)) ?_
  rcases Bool.eq_false_or_eq_true (n != 2) with hs12|hs12
  ·refine qbi 17 hs12 (zza 18 (zI n) ?_ (hw:=w1 6 true 17));refine zza 19 (zB (n != 4)) ?_ (hw:=w1 6 true 17);refine zza 20 (zB (n != 4)) ?_
   rcases Bool.eq_false_or_eq_true (n != 4) with hs13|hs13
   ·refine qbi 21 hs13 (zzm 22 (uw 10 false true 21) (zzm 23 (uw 10 false true 21) (zzm 24 (uw 10 false true 21) (zza 25 (zB true) (zzb (zyq xj (sq9 (zza 4 (.v (qyn)) (zza 5 (zI 1) (zzb (zzn (zzv (ret0 [qyn,.int .i64 1] ⟨zzp,zzp,trivial⟩ fun u14 e15=>?_)))))))))))))
    rfl
   refine qbi 21 hs13 (zza 22 (zI k) ?_ (hw:=w1 10 false 21));refine zzg 23 19 _ (fun _ _ _ ae=>qym (k_in ae (z:=k) (a:=1) (b:=20)) ?_) (hw:=w1 10 false 21);rintro _ u17 g18 rfl;refine zza 24 (zB (!(decide ((1:Int)≤k)&&decide (k≤20)))) ?_ (hw:=w1 10 false 21);refine zza 25 (zB (!(decide ((1:Int)≤k)&&decide (k≤20)))) (zzb (zzt (b := !(decide ((1:Int)≤k)&&decide (k≤20))) xj (fun ac=>?_) (fun ac=>?_)))
   ·refine sq9 (zza 4 (.v (qyn)) (zza 5 (zI 1) (zzb (zzn (zzv (ret0 [qyn,.int .i64 1] ⟨zzp,zzp,trivial⟩ fun u21 e22=>?_))))))
    rfl
   refine zzr (zzo ?_);refine zzd ?_
   exfalso;have h9hs11:=hs11;simp at h9hs11;have h9hs12:=hs12;simp at h9hs12;have h9hs13:=hs13;simp at h9hs13;have h9hb20:=ac;simp at h9hb20;omega
  refine qbi 17 hs12 (zzm 18 (uw 6 true false 17) (zzm 19 (uw 6 true false 17) (zza 20 (zB false) (zza 21 (zB false) (zza 22 (zI k) ?_ (hw:=w1 10 false 21))))));refine zzg 23 19 _ (fun _ _ _ af=>qym (k_in af (z:=k) (a:=1) (b:=20)) ?_) (hw:=w1 10 false 21);rintro _ u24 g25 rfl;refine zza 24 (zB (!(decide ((1:Int)≤k)&&decide (k≤20)))) ?_ (hw:=w1 10 false 21);refine zza 25 (zB (!(decide ((1:Int)≤k)&&decide (k≤20)))) (zzb (zzt (b := !(decide ((1:Int)≤k)&&decide (k≤20))) xj (fun aa=>?_) (fun aa=>?_)))
  ·refine sq9 (zza 4 (.v (qyn)) (zza 5 (zI 1) (zzb (zzn (zzv (ret0 [qyn,.int .i64 1] ⟨zzp,zzp,trivial⟩ fun u28 e29=>?_))))))
   rfl
  refine zzr (zzo ?_);refine zzd ?_
  exfalso;have h9hs11:=hs11;simp at h9hs11;have h9hs12:=hs12;simp at h9hs12;have h9hb27:=aa;simp at h9hb27;omega
 refine qbi 13 hs11 (zzm 14 (uw 2 true false 13) (zzm 15 (uw 2 true false 13) (zza 16 (zB false) (zza 17 (zB false) (zzm 18 (uw 6 true false 17) (zzm 19 (uw 6 true false 17) (zza 20 (zB false) (zza 21 (zB false) (zza 22 (zI k) ?_ (hw:=w1 10 false 21))))))))));refine zzg 23 19 _ (fun _ _ _ ad=>qym (k_in ad (z:=k) (a:=1) (b:=20)) ?_) (hw:=w1 10 false 21);rintro _ u31 g32 rfl;refine zza 24 (zB (!(decide ((1:Int)≤k)&&decide (k≤20)))) ?_ (hw:=w1 10 false 21);refine zza 25 (zB (!(decide ((1:Int)≤k)&&decide (k≤20)))) (zzb (zzt (b := !(decide ((1:Int)≤k)&&decide (k≤20))) xj (fun ab=>?_) (fun ab=>?_)))
 ·refine sq9 (zza 4 (.v (qyn)) (zza 5 (zI 1) (zzb (zzn (zzv (ret0 [qyn,.int .i64 1] ⟨zzp,zzp,trivial⟩ fun u35 e36=>?_))))))
  rfl
 refine zzr (zzo ?_);refine zzd ?_
 exfalso;have h9hs11:=hs11;simp at h9hs11;have h9hb34:=ab;simp at h9hb34;omega
namespace Nt
noncomputable section
def rotE(i j p q k:Int):Int:=if(0≤i∧i<64∧0≤j∧j<64∧i≠j∧q≤500∧0<p∧2*p≤q∧1≤k∧k≤20) then 0 else 1
def rotL(i j p q k:Int):List (List Int):=if(0≤i∧i<64∧0≤j∧j<64∧i≠j∧q≤500∧0<p∧2*p≤q∧1≤k∧k≤20) then roL i.toNat j.toNat p.toNat q.toNat k.toNat else []
def cosE(n k:Int):Int:=if(1≤k∧k≤20∧(n=1∨n=2∨n=4)) then 0 else 1
def cosI(n k:Int):List (List Int):=if(1≤k∧k≤20∧(n=1∨n=2∨n=4)) then cosL n.toNat k.toNat else []
end
theorem rotL_len(i j p q k:Int):(rotL i j p q k).length≤18:=by unfold rotL;split;(simp[roL]);simp
theorem cosI_len(n k:Int):(cosI n k).length≤18:=by unfold cosI;split;(exact cosL_len _ _);simp
theorem cmpq_self(x:Rat):(cmpQ x x==(0:Int))=true:=by rw[cmpQ_eq];exact decide_eq_true rfl
theorem cmpq_lt{x y:Rat}(h:x<y):decide (cmpQ x y<(0:Int))=true:=by rw[cmpQ_lt];exact decide_eq_true h
end Nt
theorem k_rotateU{u w:World}{i j p q k:Int}(d:Dat u w)(hi0:-9223372036854775808≤i)(hi1:i≤9223372036854775807)(hj0:-9223372036854775808≤j)(hj1:j≤9223372036854775807)(hp0:-9223372036854775808≤p)(hp1:p≤9223372036854775807)(hq0:-9223372036854775808≤q)(hq1:q≤9223372036854775807)(hk0:-9223372036854775808≤k)(hk1:k≤9223372036854775807):qyc 4 #[.int .i64 i,.int .i64 j,.int .i64 p,.int .i64 q,.int .i64 k] w (Post u w fun v u'=>∃x:Sl,v=.tuple #[x.v,.int .i64 (rotE i j p q k)]∧IrV 4 u' x (rotL i j p q k)):=
 qym (k_rotateO d hi0 hi1 hj0 hj1 hp0 hp1 hq0 hq1 hk0 hk1) fun v u' _ h=>by
  unfold rotE rotL
  rcases h with ⟨h,rfl⟩|⟨h,x,rfl,hx⟩
  ·rw[if_neg h,if_neg h];exact⟨sl0,rfl,irv_nil⟩
  rw[if_pos h,if_pos h];exact⟨x,rfl,hx⟩
theorem k_r37rotateU{u w:World}{i j p q k:Int}(d:Dat u w)(hi0:-9223372036854775808≤i)(hi1:i≤9223372036854775807)(hj0:-9223372036854775808≤j)(hj1:j≤9223372036854775807)(hp0:-9223372036854775808≤p)(hp1:p≤9223372036854775807)(hq0:-9223372036854775808≤q)(hq1:q≤9223372036854775807)(hk0:-9223372036854775808≤k)(hk1:k≤9223372036854775807):qyc 5 #[.int .i64 i,.int .i64 j,.int .i64 p,.int .i64 q,.int .i64 k] w (Post u w fun v u'=>∃x:Sl,v=.tuple #[x.v,.int .i64 (rotE i j p q k)]∧IrV 4 u' x (rotL i j p q k)):=
 qym (k_r37rotateO d hi0 hi1 hj0 hj1 hp0 hp1 hq0 hq1 hk0 hk1) fun v u' _ h=>by
  unfold rotE rotL
  rcases h with ⟨h,rfl⟩|⟨h,x,rfl,hx⟩
  ·rw[if_neg h,if_neg h];exact⟨sl0,rfl,irv_nil⟩
  rw[if_pos h,if_pos h];exact⟨x,rfl,hx⟩
theorem k_dcosineN{u w:World}{n k:Nat}(d:Dat u w)(hn:n=1∨n=2∨n=4)(hk1:1≤k)(hk2:k≤20):qyc 6 #[.int .i64 (n:Int),.int .i64 (k:Int)] w (Post u w fun v u'=>∃x:Sl,v=.tuple #[x.v,.int .i64 0]∧IrV 4 u' x (cosL n k)):=by
 rcases hn with rfl|rfl|rfl
 ·exact k_dcosine1 d hk1 hk2
 ·exact k_dcosine2 d hk1 hk2
 exact k_dcosine4 d hk1 hk2
theorem k_dcosineU{u w:World}{n k:Int}(d:Dat u w):qyc 6 #[.int .i64 n,.int .i64 k] w (Post u w fun v u'=>∃x:Sl,v=.tuple #[x.v,.int .i64 (cosE n k)]∧IrV 4 u' x (cosI n k)):=by
 unfold cosE cosI
 by_cases h:(1≤k∧k≤20∧(n=1∨n=2∨n=4))
 ·rw[if_pos h,if_pos h];obtain⟨a,b,c⟩:=h;obtain⟨k,rfl⟩:=Int.eq_ofNat_of_zero_le (show 0≤k by omega);obtain⟨n,rfl⟩:=Int.eq_ofNat_of_zero_le (show 0≤n by omega);exact k_dcosineN d xq xq xq
 rw[if_neg h,if_neg h];exact qym (k_dcosineB d h) fun v u' _ h8=>⟨sl0,h8,irv_nil⟩
theorem k_r37cosineN{u w:World}{n k:Nat}(d:Dat u w)(hn:n=1∨n=2∨n=4)(hk1:1≤k)(hk2:k≤20):qyc 7 #[.int .i64 (n:Int),.int .i64 (k:Int)] w (Post u w fun v u'=>∃x:Sl,v=.tuple #[x.v,.int .i64 0]∧IrV 4 u' x (cosL n k)):=by
 rcases hn with rfl|rfl|rfl
 ·exact k_r37cosine1 d hk1 hk2
 ·exact k_r37cosine2 d hk1 hk2
 exact k_r37cosine4 d hk1 hk2
theorem k_r37cosineU{u w:World}{n k:Int}(d:Dat u w):qyc 7 #[.int .i64 n,.int .i64 k] w (Post u w fun v u'=>∃x:Sl,v=.tuple #[x.v,.int .i64 (cosE n k)]∧IrV 4 u' x (cosI n k)):=by
 unfold cosE cosI
 by_cases h:(1≤k∧k≤20∧(n=1∨n=2∨n=4))
 ·rw[if_pos h,if_pos h];obtain⟨a,b,c⟩:=h;obtain⟨k,rfl⟩:=Int.eq_ofNat_of_zero_le (show 0≤k by omega);obtain⟨n,rfl⟩:=Int.eq_ofNat_of_zero_le (show 0≤n by omega);exact k_r37cosineN d xq xq xq
 rw[if_neg h,if_neg h];exact qym (k_r37cosineB d h) fun v u' _ h8=>⟨sl0,h8,irv_nil⟩
theorem w_dctCosines{u w:World}{i j p q k n:Int}(d:Dat u w)(hi0:-9223372036854775808≤i)(hi1:i≤9223372036854775807)(hj0:-9223372036854775808≤j)(hj1:j≤9223372036854775807)(hp0:-9223372036854775808≤p)(hp1:p≤9223372036854775807)(hq0:-9223372036854775808≤q)(hq1:q≤9223372036854775807)(hk0:-9223372036854775808≤k)(hk1:k≤9223372036854775807)(hn0:-9223372036854775808≤n)(hn1:n≤9223372036854775807):qyc 3 #[.int .i64 i,.int .i64 j,.int .i64 p,.int .i64 q,.int .i64 k,.int .i64 n] w (Post u w fun v _=>v=.bool true):=by
 refine zzl Tryz.func3 rfl Tryz.ntmps3 Tryz.results3 d ?_;refine sq9 (zza 12 (zB false) (zzb (sq9 (zza 32 (zI i) (zza 33 (zI j) (zza 34 (zI p) (zza 35 (zI q) (zza 36 (zI k) (zzg 37 4 _ fun _ _ _ bu=>qym (k_rotateU (i:=i) (j:=j) (p:=p) (q:=q) (k:=k) bu hi0 hi1 hj0 hj1 hp0 hp1 hq0 hq1 hk0 hk1) ?_)))))))));rintro _ u12 g13 ⟨x1,rfl,av⟩;have ao:x1.n=(rotL i j p q k).length:=av.len;have bq:(rotL i j p q k).length≤18:=rotL_len _ _ _ _ _;refine zza 31 (.v (.tuple #[x1.v,.int .i64 (rotE i j p q k)])) (zza 38 (.v (x1.v)) (zza 39 (zI (rotE i j p q k)) (zza 13 (.v (x1.v)) (zza 14 (zI (rotE i j p q k)) (zzb (sq9 (zza 41 (zI i) (zza 42 (zI j) (zza 43 (zI p) (zza 44 (zI q) (zza 45 (zI k) ?_)))))))))));refine zzg 46 5 _ fun _ _ aU a6=>qym (k_r37rotateU (i:=i) (j:=j) (p:=p) (q:=q) (k:=k) a6 hi0 hi1 hj0 hj1 hp0 hp1 hq0 hq1 hk0 hk1) ?_;rintro _ u16 aI ⟨x2,rfl,ay⟩;have an:x2.n=(rotL i j p q k).length:=ay.len;have a8:(rotL i j p q k).length≤18:=rotL_len _ _ _ _ _;refine zza 40 (.v (.tuple #[x2.v,.int .i64 (rotE i j p q k)])) (zza 47 (.v (x2.v)) (zza 48 (zI (rotE i j p q k)) (zza 15 (.v (x2.v)) (zza 16 (zI (rotE i j p q k)) (zzb (sq9 (zza 50 (zI n) (zza 51 (zI k) (zzg 52 6 _ fun _ _ ah bo=>qym (k_dcosineU (n:=n) (k:=k) bo) ?_)))))))));rintro _ u20 ai ⟨x3,rfl,ax⟩;have aH:x3.n=(cosI n k).length:=ax.len;have bi:(cosI n k).length≤18:=cosI_len _ _;refine zza 49 (.v (.tuple #[x3.v,.int .i64 (cosE n k)])) (zza 53 (.v (x3.v)) (zza 54 (zI (cosE n k)) (zza 17 (.v (x3.v)) (zza 18 (zI (cosE n k)) (zzc 170 [(4,zI k),(5,zI n),(13,.v (x1.v)),(14,zI (rotE i j p q k)),(15,.v (x2.v)),(16,zI (rotE i j p q k)),(17,.v (x3.v)),(18,zI (cosE n k))] [] (sq9 (zza 56 (zI n) (zza 57 (zI k) (zzg 58 7 _ fun _ _ ad a0=>qym (k_r37cosineU (n:=n) (k:=k) a0) ?_)))))))));rintro _ aW ae ⟨x4,rfl,aD⟩;have aG:x4.n=(cosI n k).length:=aD.len;have bs:(cosI n k).length≤18:=cosI_len _ _;refine zza 55 (.v (.tuple #[x4.v,.int .i64 (cosE n k)])) (zza 59 (.v (x4.v)) (zza 60 (zI (cosE n k)) (zza 19 (.v (x4.v)) (zza 20 (zI (cosE n k)) (zzb (zzd (sq9 (zza 61 (zI (rotE i j p q k)) (zza 62 (zI (rotE i j p q k)) (zza 63 (zB ((rotE i j p q k) != (rotE i j p q k))) (zqB 64 (show((rotE i j p q k) != (rotE i j p q k))=false from(bne_self_eq_false _)) ?_)))))))))));refine zza 65 (zI (cosE n k)) ?_ (hw:=w1 3 false 64);refine zza 66 (zI (cosE n k)) ?_ (hw:=w1 3 false 64);refine zza 67 (zB ((cosE n k) != (cosE n k))) ?_ (hw:=w1 3 false 64);refine zza 68 (zB ((cosE n k) != (cosE n k))) (zqB 69 (show((cosE n k) != (cosE n k))=false from(bne_self_eq_false _)) (zza 70 (.v (x1.v)) ?_ (hw:=w1 8 false 69)));refine zza 71 (zI x1.n) ?_ (hw:=w1 8 false 69);refine zza 72 (.v (x2.v)) ?_ (hw:=w1 8 false 69);refine zza 73 (zI x2.n) ?_ (hw:=w1 8 false 69);refine zza 74 (zB ((x1.n:Int) != (x2.n:Int))) ?_ (hw:=w1 8 false 69);refine zza 75 (zB ((x1.n:Int) != (x2.n:Int))) (zqB 76 (show((x1.n:Int) != (x2.n:Int))=false from(by rw[ao,an];exact bne_self_eq_false _)) (zza 77 (.v (x3.v)) ?_ (hw:=w1 15 false 76)))
 refine zza 78 (zI x3.n) ?_ (hw:=w1 15 false 76);refine zza 79 (.v (x4.v)) ?_ (hw:=w1 15 false 76);refine zza 80 (zI x4.n) ?_ (hw:=w1 15 false 76);refine zza 81 (zB ((x3.n:Int) != (x4.n:Int))) ?_ (hw:=w1 15 false 76);refine zza 82 (zB ((x3.n:Int) != (x4.n:Int))) (zzb (zzt (b:=(x3.n:Int) != (x4.n:Int)) xj (fun hb=>?_) (fun hb=>?_)))
 ·exact absurd hb (by rw[show((x3.n:Int) != (x4.n:Int))=false from(by rw[aH,aG];exact bne_self_eq_false _)];decide)
 clear hb;refine zzr (zzo ?_);refine zzd (sq9 (zza 21 (zI 0) (zzc 170 [(4,zI k),(5,zI n),(13,.v (x1.v)),(15,.v (x2.v)),(17,.v (x3.v)),(19,.v (x4.v)),(21,zI 0)] [] (zzs (zym (I:=fun aO S' u'=>∃(t:Nat),(aO=x1.n-t)∧(t≤x1.n)∧(S'=St.of 170 [(4,zI k),(5,zI n),(13,.v (x1.v)),(15,.v (x2.v)),(17,.v (x3.v)),(19,.v (x4.v)),(21,zI t)] [])∧(Ext aW u')) (fun m S u1 u2 e h=>by obtain⟨t,hm,p0,hS,hE⟩:=h;exact⟨t,hm,p0,hS,hE.trans e⟩) _ yq ⟨0,rfl,Nat.zero_le _,rfl,(Ext.refl _)⟩ ?_)))));rintro aO _ bv ⟨t,aX,ht,rfl,aa⟩;refine zzd (sq9 (zza 83 (zI t) (zza 84 (.v (x1.v)) (zza 85 (zI x1.n) (zza 86 (zB (decide ((t:Int)<(x1.n:Int)))) (zzb (zzt (b:=decide ((t:Int)<(x1.n:Int))) xj (fun ab=>?_) (fun ab=>?_))))))))
 ·have qhb31:=qyt ab;refine zzr (zzo ?_);refine zzd (zzs (zzd (zzy [0,0,3,7,0,0,48,112,255] [(0,[]),(1,[]),(2,[]),(3,[]),(4,[]),(5,[]),(6,[]),(7,[]),(8,[])] xj xj (zza 89 (.v (x1.v)) (zza 90 (zI t) ?_)))));have hl32:=((av.ext (aU.t (aI.t (ah.t (ai.t (ad.t (ae.t aa)))))))).len;obtain⟨b32,aQ,aE,ar⟩:=ir_at4 (av.ext (aU.t (aI.t (ah.t (ai.t (ad.t (ae.t aa))))))) (i:=t) xq;refine zzz 91 (aQ+t*4) (n:=x1.n) (off:=aQ) (sz:=4) (i:=(t:Int)) xq aE xq xq sl22 (zyl 92 [.int .i64 (gi (rotL i j p q k) t 0),.int .i64 (gi (rotL i j p q k) t 1),.int .i64 (gi (rotL i j p q k) t 2),.int .i64 (gi (rotL i j p q k) t 3)] ar ty28 (zza 93 (.v (x2.v)) (zza 94 (zI t) ?_)));have hl33:=((ay.ext (ah.t (ai.t (ad.t (ae.t aa)))))).len;obtain⟨b33,aP,au,aq⟩:=ir_at4 (ay.ext (ah.t (ai.t (ad.t (ae.t aa))))) (i:=t) xq;refine zzz 95 (aP+t*4) (n:=x2.n) (off:=aP) (sz:=4) (i:=(t:Int)) xq au xq xq sl22 (zyl 96 [.int .i64 (gi (rotL i j p q k) t 0),.int .i64 (gi (rotL i j p q k) t 1),.int .i64 (gi (rotL i j p q k) t 2),.int .i64 (gi (rotL i j p q k) t 3)] aq ty28 (sy_neq4 97 ?_));refine zzb (zyr xj (zzr (zzo ?_)));refine zzf (zza 87 (zI t) (qwi 88 ((t:Int)+1) (t+1:Nat) xk (zza 21 (zI (t+1:Nat)) (zzw ?_))));refine⟨_,?_,_,by exact zzu _ _ _,t+1,rfl,by omega,rfl,aa⟩
  omega
 have qhb31:=qyf ab;refine zyb (zzo (zzd (sq9 (zza 22 (zI 0) (zzb (zzs (zym (I:=fun aL S' u'=>∃(t:Nat),(aL=x3.n-t)∧(t≤x3.n)∧(S'=St.of 170 [(4,zI k),(5,zI n),(17,.v (x3.v)),(19,.v (x4.v)),(22,zI t)] [])∧(Ext bv u')) (fun m S u1 u2 e h=>by obtain⟨t,hm,p0,hS,hE⟩:=h;exact⟨t,hm,p0,hS,hE.trans e⟩) _ yq ⟨0,rfl,Nat.zero_le _,rfl,(Ext.refl _)⟩ ?_)))))));rintro aL _ u34 ⟨t,a1,ht,rfl,ag⟩;refine zzd (sq9 (zza 98 (zI t) (zza 99 (.v (x3.v)) (zza 100 (zI x3.n) (zza 101 (zB (decide ((t:Int)<(x3.n:Int)))) (zzb (zzt (b:=decide ((t:Int)<(x3.n:Int))) xj (fun ac=>?_) (fun ac=>?_))))))))
 ·have qhb35:=qyt ac;refine zzr (zzo ?_);refine zzd (zzs (zzd (zzy [0,0,3,7,0,0,48,112,255] [(0,[]),(1,[]),(2,[]),(3,[]),(4,[]),(5,[]),(6,[]),(7,[]),(8,[])] xj xj (zza 104 (.v (x3.v)) (zza 105 (zI t) ?_)))));have hl36:=((ax.ext (ad.t (ae.t (aa.trans ag))))).len;obtain⟨b36,aS,al,aw⟩:=ir_at4 (ax.ext (ad.t (ae.t (aa.trans ag)))) (i:=t) xq;refine zzz 106 (aS+t*4) (n:=x3.n) (off:=aS) (sz:=4) (i:=(t:Int)) xq al xq xq sl22 (zyl 107 [.int .i64 (gi (cosI n k) t 0),.int .i64 (gi (cosI n k) t 1),.int .i64 (gi (cosI n k) t 2),.int .i64 (gi (cosI n k) t 3)] aw ty28 (zza 108 (.v (x4.v)) (zza 109 (zI t) ?_)));have hl37:=((aD.ext (aa.trans ag))).len;obtain⟨b37,aK,az,am⟩:=ir_at4 (aD.ext (aa.trans ag)) (i:=t) xq;refine zzz 110 (aK+t*4) (n:=x4.n) (off:=aK) (sz:=4) (i:=(t:Int)) xq az xq xq sl22 (zyl 111 [.int .i64 (gi (cosI n k) t 0),.int .i64 (gi (cosI n k) t 1),.int .i64 (gi (cosI n k) t 2),.int .i64 (gi (cosI n k) t 3)] am ty28 (sy_neq4 112 ?_));refine zzb (zyr xj (zzr (zzo ?_)));refine zzf (zza 102 (zI t) (qwi 103 ((t:Int)+1) (t+1:Nat) xk (zza 22 (zI (t+1:Nat)) (zzw ?_))));refine⟨_,?_,_,by exact zzu _ _ _,t+1,rfl,by omega,rfl,ag⟩
  omega
 have qhb35:=qyf ac;refine zyb (zzo (zzd (zzy [0,0,2,7,15,0,38,102,127,511] [(0,[]),(1,[]),(5,[]),(2,[]),(3,[]),(4,[]),(6,[]),(7,[]),(8,[]),(9,[])] xj xj (sy_lit 113 ⟨3,ics [1,2,4]++[]⟩ 3 ?_))));refine zza 114 (zI n) (zza 118 (zI k) (zzg 115 8 _ fun _ _ _ bg=>qym ((show Calls _ _ #[.int .i64 n,.int .i64 3] _ _ from k_withinN (n:=n) (m:=3) bg xw xw xq xq)) ?_));rintro _ u39 g40 ⟨z,rfl,hwz⟩;refine zyv 116 (off':=z*1) (n:=3) (off:=0) (sz:=1) (i:=(z:Int)) sl29 xq xq xq ?_;refine zzh 117 (V:=⟨3,ics ([1,2,4])++[]⟩) (off:=z*1) (zI (([1,2,4]).getD z 0)) ty3 (part_intsX (l:=[1,2,4]) (i:=z) (by rw[(show [(1:Int),2,4].length=3 from rfl)];omega) rfl) (zzg 119 8 _ fun _ _ _ a9=>qym ((show Calls _ _ #[.int .i64 k,.int .i64 16] _ _ from k_withinN (n:=k) (m:=16) a9 xw xw xq xq)) ?_);rintro _ u43 g44 ⟨m,rfl,hwm⟩;refine qwi 120 ((4:Int)+(m:Int)) (4+m:Nat) xk (zza 23 (zI (([1,2,4]).getD z 0)) (zza 24 (zI (4+m:Nat)) (zzc 170 [(23,zI (([1,2,4]).getD z 0)),(24,zI (4+m:Nat))] [] (zzd ?_))))
 obtain⟨nn,hnn,aj⟩:∃nn:Nat,[1,2,4].getD z 0=(nn:Int)∧(nn=1∨nn=2∨nn=4):=by
  obtain rfl|rfl|rfl:z=0∨z=1∨z=2:=by omega
  ·exact⟨1,rfl,.inl rfl⟩
  ·exact⟨2,rfl,.inr (.inl rfl)⟩
  exact⟨4,rfl,.inr (.inr rfl)⟩
 rw[hnn];refine zzf (zza 122 (zI nn) (zza 123 (zI (4+m:Nat)) (zzg 124 6 _ fun _ _ _ a5=>qym (k_dcosineN (n:=nn) (k:=4+m) a5 aj xq xq) ?_)));rintro _ u47 g48 ⟨x5,rfl,aM⟩;refine zza 121 (.v (.tuple #[x5.v,.int .i64 0])) (zza 125 (.v (x5.v)) (zza 126 (zI 0) (zza 25 (.v (x5.v)) (zza 26 (zI 0) (zzb (sq9 (zza 128 (.v (x5.v)) (zza 129 (zI nn) (zzg 130 9 _ fun _ _ aT bk=>qym ((show Calls _ _ #[_,_,.int .i64 64] _ _ from k_ddistance (n:=nn) (b:=64) bk (aM.ext aT) (cosL_ok aj xq xq) xq xw (gapQ_16 xq xq))) ?_)))))))));rintro _ u53 br ⟨af,rfl,aN⟩;refine zza 127 (.v (.tuple #[af.v,.int .i64 0])) (zza 131 (.v (af.v)) (zza 132 (zI 0) (zzj 27 ⟨35,zw3⟩ (zzi ⟨35,af.cs⟩ ty35 ?_))));refine zza 28 (zI 0) (zzb (sq9 (zza 134 (.v (x5.v)) (zza 135 (zI nn) (zzg 136 10 _ fun _ _ ap ba=>qym ((show Calls _ _ #[_,_,.int .i64 64] _ _ from k_r37distance (n:=nn) (b:=64) ba (aM.ext xe) (cosL_ok aj xq xq) xq xw (gapQ_16 xq xq))) ?_)))));rintro _ u59 aR ⟨ak,rfl,be⟩;refine zza 133 (.v (.tuple #[ak.v,.int .i64 0])) (zza 137 (.v (ak.v)) (zza 138 (zI 0) (zzj 29 ⟨35,zw3⟩ (zzi ⟨35,ak.cs⟩ ty35 ?_))));refine zza 30 (zI 0) (zzb (zzd ?_));have hpk:2^m≤2^16:=Nat.pow_le_pow_right xw xq;have bh:(0:Int)≤((2^m:Nat):Int):=Int.natCast_nonneg _;have bj:((2^m:Nat):Int)≤65536:=Int.ofNat_le.2 hpk;refine zzy [0,1,3,7,15,31,63,127,255,511,1023,2047,4095,8191,16383,16383,65535,131071,262143,524287,1048575,1048575,3145727,7340031,15728639,32505855,67108863,134217727,268435455,536870911,1073741823,2147483647] [(0,[]),(1,[]),(2,[]),(3,[]),(4,[]),(5,[]),(6,[]),(7,[]),(8,[]),(9,[]),(10,[]),(11,[]),(12,[]),(13,[]),(14,[]),(15,[]),(16,[]),(17,[]),(18,[]),(19,[]),(20,[]),(21,[]),(22,[]),(23,[]),(24,[]),(25,[]),(26,[]),(27,[]),(28,[]),(29,[]),(30,[]),(31,[])] xj xj (zzg 139 11 _ fun _ _ aA bn=>qym (k_known37 bn) ?_);rintro _ u63 aF rfl;refine zza 140 (zB true) (zza 141 (zI 0) ?_ (hw:=w1 1 true 140));refine zza 142 (zB true) ?_ (hw:=w1 1 true 140);refine zza 143 (zB true) (zza 144 (zB true) (zza 145 (zI 0) ?_ (hw:=w1 5 true 144)));refine zza 146 (zB true) ?_ (hw:=w1 5 true 144);refine zza 147 (zB true) (zza 148 (zB true) (zza 149 (zI 0) ?_ (hw:=w1 9 true 148)));refine zza 150 (zB true) ?_ (hw:=w1 9 true 148);refine zza 151 (zB true) (zza 152 (zB true) (zzh 153 (.v (af.v)) ty35 zze ?_ (hw:=w1 13 true 152)));refine zzh 154 (.v (ak.v)) ty35 zze ?_ (hw:=w1 13 true 152);refine zzg 155 12 _ (fun _ _ aB bc=>qym (k_rqCompare bc (aN.ext xe).raw (be.ext xe).raw xq xq) ?_) (hw:=w1 13 true 152);rintro _ u67 bb rfl;refine zza 156 (zB ((cmpQ (dsA nn 64 (cosL nn (4+m)) nn) (dsA nn 64 (cosL nn (4+m)) nn))==0)) ?_ (hw:=w1 13 true 152);refine zza 157 (zB ((cmpQ (dsA nn 64 (cosL nn (4+m)) nn) (dsA nn 64 (cosL nn (4+m)) nn))==0)) (zqB 158 (show((cmpQ (dsA nn 64 (cosL nn (4+m)) nn) (dsA nn 64 (cosL nn (4+m)) nn))==0)=true from(cmpq_self _)) (zzh 159 (.v (af.v)) ty35 zze ?_ (hw:=w1 19 true 158)));refine zza 160 (zI (4+m:Nat)) ?_ (hw:=w1 19 true 158);refine qwi 161 (((4+m:Nat):Int)-4) m xk ?_ (hw:=w1 19 true 158)
 refine sy_conv 162 ((m:Int)) (fun w=>by kernel_rfl) (IntWalk.u64_in _ xq) ?_ (hw:=w1 19 true 158);refine sy_shl 163 (k:=.i64) (s:=(m:Int)) (((2^m:Nat):Int)) xq yy (by rw[shl_one xq xq];unfold p2i;simp) ?_ (hw:=w1 19 true 158);refine zzg 164 14 _ (fun _ _ aZ bp=>qym (k_rqOf bp (z:=((2^m:Nat):Int)) xq xq) ?_) (hw:=w1 19 true 158);rintro _ u74 bt ⟨r72,rfl,bf⟩;refine zzg 165 13 _ (fun _ _ aV aY=>qym (k_rqMul aY (aN.ext xe).raw (bf.ext aV).raw xq xq) ?_) (hw:=w1 19 true 158);rintro _ u80 g81 ⟨r78,rfl,a4⟩;refine zzg 166 14 _ (fun _ _ bl bm=>qym (k_rqOf bm (z:=1) xq xq) ?_) (hw:=w1 19 true 158);rintro _ u86 a2 ⟨r84,rfl,a3⟩;refine zzg 167 12 _ (fun _ _ aJ a7=>qym (k_rqCompare a7 (a4.ext xe).raw (a3.ext aJ).raw xq xq) ?_) (hw:=w1 19 true 158);rintro _ u90 g91 rfl;refine zza 168 (zB (decide ((cmpQ ((dsA nn 64 (cosL nn (4+m)) nn)*((((2^m:Nat):Int):Int):Rat)) ((1:Int):Rat))<0))) ?_ (hw:=w1 19 true 158);refine zza 169 (zB (decide ((cmpQ ((dsA nn 64 (cosL nn (4+m)) nn)*((((2^m:Nat):Int):Int):Rat)) ((1:Int):Rat))<0))) (zza 12 (zB (decide ((cmpQ ((dsA nn 64 (cosL nn (4+m)) nn)*((((2^m:Nat):Int):Int):Rat)) ((1:Int):Rat))<0))) (zzc 170 [(12,zB (decide ((cmpQ ((dsA nn 64 (cosL nn (4+m)) nn)*((((2^m:Nat):Int):Int):Rat)) ((1:Int):Rat))<0)))] [] (zzn (ret0 [.bool (decide ((cmpQ ((dsA nn 64 (cosL nn (4+m)) nn)*((((2^m:Nat):Int):Int):Rat)) ((1:Int):Rat))<0))] ⟨zzp,trivial⟩ fun u93 e94=>?_))));show Value.bool _=Value.bool true;rw[show(decide ((cmpQ ((dsA nn 64 (cosL nn (4+m)) nn)*((((2^m:Nat):Int):Int):Rat)) ((1:Int):Rat))<0))=true from(cmpq_lt (dist_ok aj xq))]
end Go.Proofs.YtcpnfblekhgmgaaGreat
